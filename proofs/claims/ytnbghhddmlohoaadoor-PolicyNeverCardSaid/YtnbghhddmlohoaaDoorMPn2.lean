-- Laid together by a program of this session (merge.py) out of its own texts and of the print's, for one law. Lean checks it.
import Derived.Test.YtnbghhddmlohoaaDoorMPn1
section
namespace Go.Proofs.YtnbghhddmlohoaaDoor.PAll
open Go.RowKit Go.Proofs.YtnbghhddmlohoaaDoorW.PrintWords Go.Proofs.YtnbghhddmlohoaaDoorW.PrintLast Go.Proofs.YtnbghhddmlohoaaDoorW.PrintMore
attribute [local go_sem] max2_int min2_int max_two min_two max_three min_three max_four min_four   -- for this text's walks alone
set_option linter.unusedVariables false
set_option linter.unusedSimpArgs false

def kind_Letter.f (a0 : Int) : Option (Bool) := if (Go.bits .or .u8 a0 32) ≥ 97 then (some (decide ((Go.bits .or .u8 a0 32) ≤ 122))) else (some false)
set_option maxHeartbeats 8000000 in
set_option maxRecDepth 100000 in
theorem kind_Letter.calls (a0 : Int) (r : Bool) (w : World) (h : kind_Letter.f a0 = some r) :
    Calls Tryd.prog 58 #[.int .u8 a0] w fun e w' => e = .returned (.bool r) ∧ Drawn0 w w' := by
  have H : (if (Go.bits .or .u8 a0 32) ≥ 97 then (some (decide ((Go.bits .or .u8 a0 32) ≤ 122))) else (some false)) = some r := h
  clear h
  by_cases c2 : (Go.bits .or .u8 a0 32) ≥ 97
  · rw [if_pos c2] at H
    have c2b0 : decide (97 ≤ (Go.bits .or .u8 a0 32)) = true := decide_eq_true c2
    clear c2
    obtain rfl := Option.some.inj H
    go_enter Tryd.func58, Tryd.ntmps58
    go_wp2
    go_ret
    exact ⟨Rs, Dw⟩
  · rw [if_neg c2] at H
    have c2b0 : decide (97 ≤ (Go.bits .or .u8 a0 32)) = false := decide_eq_false c2
    clear c2
    obtain rfl := Option.some.inj H
    go_enter Tryd.func58, Tryd.ntmps58
    go_wp2
    go_ret
    exact ⟨Rs, Dw⟩

def scheme_part.f (a0 : Int) : Option (Bool) := (kind_Letter.f a0).bind fun t185 => (if t185 = true then (some true) else ((kind_Figure.f a0).bind fun t186 => (if t186 = true then (some true) else (if a0 = 43 then (some true) else (if a0 = 45 then (some true) else (some (a0 == 46)))))))
set_option maxHeartbeats 8000000 in
set_option maxRecDepth 100000 in
theorem scheme_part.calls (a0 : Int) (r : Bool) (w : World) (h : scheme_part.f a0 = some r) :
  Calls Tryd.prog 59 #[.int .u8 a0] w fun e w' => e = .returned (.bool r) ∧ Drawn0 w w' := by
 have H := h
 clear h
 unfold scheme_part.f at H
 replace H := Option.bind_eq_some_iff.mp H
 obtain ⟨t185, A20, H⟩ := H
 try dsimp -simprocs only at H
 have A2 := Aside0.mk A20
 clear A20
 by_cases c3 : t185 = true
 ·subst c3
  rw [if_pos rfl] at H
  obtain rfl := Option.some.inj H
  go_enter Tryd.func59, Tryd.ntmps59
  go_wp2_with (first | ((with_reducible refine gate_callee (f := 58) rfl ?_); refine goL (some 4) Tryd.func58 #[.int .u8 a0] ?_; (with_reducible refine (kind_Letter.calls a0 true _ A2.out).mono ?_); rintro e w' ⟨rfl, ⟨nd, rfl⟩⟩; refine ⟨_, rfl, ?_⟩))
  go_ret
  exact ⟨Rs, Dw⟩
 replace c3 := Bool.eq_false_iff.mpr c3
 subst c3
 rw [if_neg (show ¬ (false = true) by decide)] at H
 replace H := Option.bind_eq_some_iff.mp H
 obtain ⟨t186, A40, H⟩ := H
 try dsimp -simprocs only at H
 have A4 := Aside0.mk A40
 clear A40
 by_cases c5 : t186 = true
 ·subst c5
  rw [if_pos rfl] at H
  obtain rfl := Option.some.inj H
  go_enter Tryd.func59, Tryd.ntmps59
  go_wp2_with (first | ((with_reducible refine gate_callee (f := 58) rfl ?_); refine goL (some 4) Tryd.func58 #[.int .u8 a0] ?_; (with_reducible refine (kind_Letter.calls a0 false _ A2.out).mono ?_); rintro e w' ⟨rfl, ⟨nd, rfl⟩⟩; refine ⟨_, rfl, ?_⟩) | (go_at_call 82; (with_reducible refine (kind_Figure.calls a0 true _ A4.out).mono ?_); rintro e w' ⟨rfl, ⟨nd, rfl⟩⟩))
  go_ret
  exact ⟨Rs, Dw⟩
 replace c5 := Bool.eq_false_iff.mpr c5
 subst c5
 rw [if_neg (show ¬ (false = true) by decide)] at H
 by_cases c6 : a0 = 43
 ·rw [if_pos c6] at H
  have c6b0 : (a0 == 43) = true := beq_iff_eq.mpr c6
  have c6b1 : (a0 != 43) = false := bne_eq_false_iff_eq.mpr c6
  clear c6
  obtain rfl := Option.some.inj H
  go_enter Tryd.func59, Tryd.ntmps59
  go_wp2_with (first | ((with_reducible refine gate_callee (f := 58) rfl ?_); refine goL (some 4) Tryd.func58 #[.int .u8 a0] ?_; (with_reducible refine (kind_Letter.calls a0 false _ A2.out).mono ?_); rintro e w' ⟨rfl, ⟨nd, rfl⟩⟩; refine ⟨_, rfl, ?_⟩) | (go_at_call 82; (with_reducible refine (kind_Figure.calls a0 false _ A4.out).mono ?_); rintro e w' ⟨rfl, ⟨nd, rfl⟩⟩))
  go_ret
  exact ⟨Rs, Dw⟩
 rw [if_neg c6] at H
 have c6b0 : (a0 == 43) = false := beq_eq_false_iff_ne.mpr c6
 have c6b1 : (a0 != 43) = true := bne_iff_ne.mpr c6
 by_cases c7 : a0 = 45
 ·rw [if_pos c7] at H
  have c7b0 : (a0 == 45) = true := beq_iff_eq.mpr c7
  have c7b1 : (a0 != 45) = false := bne_eq_false_iff_eq.mpr c7
  clear c7
  obtain rfl := Option.some.inj H
  go_enter Tryd.func59, Tryd.ntmps59
  go_wp2_with (first | ((with_reducible refine gate_callee (f := 58) rfl ?_); refine goL (some 4) Tryd.func58 #[.int .u8 a0] ?_; (with_reducible refine (kind_Letter.calls a0 false _ A2.out).mono ?_); rintro e w' ⟨rfl, ⟨nd, rfl⟩⟩; refine ⟨_, rfl, ?_⟩) | (go_at_call 82; (with_reducible refine (kind_Figure.calls a0 false _ A4.out).mono ?_); rintro e w' ⟨rfl, ⟨nd, rfl⟩⟩))
  go_ret
  exact ⟨Rs, Dw⟩
 rw [if_neg c7] at H
 have c7b0 : (a0 == 45) = false := beq_eq_false_iff_ne.mpr c7
 have c7b1 : (a0 != 45) = true := bne_iff_ne.mpr c7
 obtain rfl := Option.some.inj H
 go_enter Tryd.func59, Tryd.ntmps59
 go_wp2_with (first | ((with_reducible refine gate_callee (f := 58) rfl ?_); refine goL (some 4) Tryd.func58 #[.int .u8 a0] ?_; (with_reducible refine (kind_Letter.calls a0 false _ A2.out).mono ?_); rintro e w' ⟨rfl, ⟨nd, rfl⟩⟩; refine ⟨_, rfl, ?_⟩) | (go_at_call 82; (with_reducible refine (kind_Figure.calls a0 false _ A4.out).mono ?_); rintro e w' ⟨rfl, ⟨nd, rfl⟩⟩))
 go_ret
 exact ⟨Rs, Dw⟩

def lowB (c : UInt8) : UInt8 := if 65 ≤ c.toNat ∧ c.toNat ≤ 90 then c ||| 32 else c
def lowS (s : ByteArray) : ByteArray := ⟨s.data.map lowB⟩
def lowRow (s : ByteArray) (k : Nat) : List Int := ((s.data.toList.take k).map lowB ++ s.data.toList.drop k).map fun c => (c.toNat : Int)
theorem lowRow_len (s : ByteArray) (k : Nat) (h : k ≤ s.size) : (lowRow s k).length = s.size := by
  have e : s.data.toList.length = s.size := by simp
  simp [lowRow] at *
  omega
theorem lowRow_zero (s : ByteArray) (j : Nat) : (lowRow s 0).getD j 0 = ((s.data.toList.getD j 0).toNat : Int) := by
  simp only [lowRow, List.take_zero, List.map_nil, List.drop_zero, List.nil_append, List.getD_eq_getElem?_getD, List.getElem?_map]
  cases s.data.toList[j]? <;> simp
theorem lowRow_at (s : ByteArray) (k j : Nat) (h : k ≤ s.size) (hj : j < s.size) : (lowRow s k).getD j 0 = if j < k then ((lowB (s.data.toList.getD j 0)).toNat : Int) else ((s.data.toList.getD j 0).toNat : Int) := by
  have e : s.data.toList.length = s.size := by simp
  have hg : ∃ c, s.data.toList[j]? = some c := ⟨_, List.getElem?_eq_getElem (by omega)⟩
  obtain ⟨c, hc⟩ := hg
  simp only [lowRow, List.getD_eq_getElem?_getD, List.getElem?_map, List.getElem?_append, List.length_map, List.length_take, e, Nat.min_eq_left h]
  split
  · next hlt => rw [List.getElem?_take, if_pos hlt, hc]; simp
  · next hlt => rw [List.getElem?_drop, show k + (j - k) = j by omega, hc]; simp
theorem lowRow_end (s : ByteArray) : strOfNums (lowRow s s.size) = lowS s := by
  have e : s.data.toList.length = s.size := by simp
  unfold lowRow
  rw [List.take_of_length_le (by omega), List.drop_of_length_le (by omega)]
  simp only [strOfNums, lowS, List.append_nil, List.map_map, Function.comp_def]
  congr 1
  apply Array.ext'
  simp
def LowIs (s : ByteArray) (B : Nat) (w wr : World) (k : Nat) : Prop :=
  (∀ j, j < s.size → wr.cell? ⟨B, j, none⟩ = some (.int .u8 ((lowRow s k).getD j 0))) ∧ (∀ j, j < s.size → wr.frozen? ⟨B, j, none⟩ = false) ∧ Below B w wr
theorem LowIs.same {s : ByteArray} {B : Nat} {w wr : World} {k : Nat} (h : LowIs s B w wr k) (hk : k < s.size) (he : lowB (s.data.toList.getD k 0) = s.data.toList.getD k 0) : LowIs s B w wr (k + 1) := by
  refine ⟨fun j hj => ?_, h.2⟩
  rw [h.1 j hj, lowRow_at s k j (by omega) hj, lowRow_at s (k + 1) j (by omega) hj]
  by_cases e1 : j < k
  · rw [if_pos e1, if_pos (by omega)]
  · by_cases e2 : j = k
    · subst e2; rw [if_neg e1, if_pos (by omega), he]
    · rw [if_neg e1, if_neg (by omega)]
theorem LowIs.set {s : ByteArray} {B : Nat} {w wr : World} {k : Nat} (h : LowIs s B w wr k) (hk : k < s.size) {v : Int} (he : ((lowB (s.data.toList.getD k 0)).toNat : Int) = v) : LowIs s B w (wr.setCell ⟨B, k, none⟩ (.int .u8 v)) (k + 1) := by
  obtain ⟨h1, h2, h3⟩ := h
  refine ⟨fun j hj => ?_, fun j hj => by rw [World.frozen?_setCell]; exact h2 j hj, h3.setCell (Nat.le_refl _) _⟩
  rw [lowRow_at s (k + 1) j (by omega) hj]
  by_cases e2 : j = k
  · subst e2; rw [if_pos (by omega), he]; exact World.cell?_setCell_same _ _ _ (h1 j hj)
  · rw [World.cell?_setCell_other wr _ _ _ (by simp [Ne.symm e2]), h1 j hj, lowRow_at s k j (by omega) hj]
    by_cases e1 : j < k
    · rw [if_pos e1, if_pos (by omega)]
    · rw [if_neg e1, if_neg (by omega)]
theorem lowB_is (c : UInt8) : lowB c = c ∨ (65 ≤ (c.toNat : Int) ∧ (c.toNat : Int) ≤ 90) := by
  unfold lowB
  split
  · right; omega
  · left; rfl
theorem lowB_bits : ∀ c : UInt8, 65 ≤ (c.toNat : Int) → (c.toNat : Int) ≤ 90 → ((lowB c).toNat : Int) = Go.bits .or .u8 c.toNat 32 := by
  have H : ∀ n, n < 256 → 65 ≤ n → n ≤ 90 → ((lowB (UInt8.ofNat n)).toNat : Int) = Go.bits .or .u8 (n : Int) 32 := by decide +kernel
  intro c h1 h2
  have := H c.toNat (by have := c.toNat_lt; omega) (by omega) (by omega)
  simpa using this
theorem fz_bytes (w : World) (e : TypeId) (s : ByteArray) (j : Nat) (hj : j < s.size) : (Lib.bytesWorld w e s).frozen? ⟨w.heap.size, j, none⟩ = false := by
  have h := Lib.bytesWorld_at_new w e s
  have hn : s.size ≤ (Lib.bytesCells w e s).size := by simp [Lib.bytesCells]
  simp [World.frozen?, h]
  omega
def kind_Lower.f (a0 : ByteArray) : Option (ByteArray) := if a0.size ≤ 140737488351232 then some (lowS a0) else none
set_option maxHeartbeats 1000000 in
set_option maxRecDepth 100000 in
theorem kind_Lower.calls (a0 : ByteArray) (r : ByteArray) (w : World) (h : kind_Lower.f a0 = some r) :
  Calls Tryd.prog 60 #[.string a0] w fun e w' => e = .returned (.string r) ∧ Below w.heap.size w w' := by
 obtain ⟨hs, rfl⟩ : a0.size ≤ 140737488351232 ∧ lowS a0 = r := by
  unfold kind_Lower.f at h
  split at h
  ·next hs => exact ⟨hs, by simpa using h⟩
  simp at h
 clear h
 have hcv := fun W => Lib.run_convert_string_bytes (P := Tryd.prog) W 9 85 5 a0 Tryd.underlying9 Tryd.underlying85 Tryd.underlying5
 have hstart : LowIs a0 w.heap.size w (Lib.bytesWorld w 5 a0) 0 := by
  refine ⟨fun j hj => ?_, fun j hj => ?_, ?_⟩
  ·rw [Lib.bytesWorld_cell w 5 a0 j hj, lowRow_zero]
  ·exact fz_bytes w 5 a0 j hj
  exact bytes_below (Below.refl _ _) (Nat.le_refl _) 5 a0
 have HS := Aside0.mk hstart
 clear hstart
 go_enter Tryd.func60, Tryd.ntmps60
 go_wp2
 go_loopw [10] (fun i wr => ∃ k : Nat, k ≤ a0.size ∧ i = .int .i64 k ∧ LowIs a0 w.heap.size w wr k) (fun i _ => a0.size - (intOf i).toNat)
 case atStart => exact ⟨0, Nat.zero_le _, rfl, HS.out⟩
 case round =>
  obtain ⟨k, hk, rfl, hlow⟩ := hrel
  by_cases hlt : k < a0.size
  ·obtain ⟨c, hc⟩ : ∃ c, c = a0.data.toList.getD k 0 := ⟨_, rfl⟩
   have hcell : wr.cell? ⟨w.heap.size, k, none⟩ = some (.int .u8 (c.toNat : Int)) := by
    rw [hlow.1 k hlt, lowRow_at a0 k k (by omega) hlt, if_neg (by omega), hc]
   have hfz : wr.frozen? ⟨w.heap.size, k, none⟩ = false := hlow.2.1 k hlt
   have HL := Aside0.mk hlow
   clear hlow
   have HC := Aside0.mk hc
   clear hc
   obtain ⟨n, hn⟩ : ∃ n : Int, n = (c.toNat : Int) := ⟨_, rfl⟩
   rw [← hn] at hcell
   have HN := Aside0.mk hn
   have hn0 : 0 ≤ n := by omega
   have hn1 : n ≤ 255 := by have := c.toNat_lt; omega
   clear hn
   by_cases h1 : 65 ≤ n
   ·by_cases h2 : n ≤ 90
    ·go_wp2
     go_roundw
     case rel => exact ⟨k + 1, by omega, by go_num, HL.out.set hlt (by rw [← HC.out, HN.out]; exact lowB_bits c (by rw [← HN.out]; exact h1) (by rw [← HN.out]; exact h2))⟩
     case measure => simp [intOf]; omega
    go_wp2
    go_roundw
    case rel => exact ⟨k + 1, by omega, by go_num, HL.out.same hlt (by rw [← HC.out]; exact (lowB_is c).resolve_right (by rw [← HN.out]; omega))⟩
    case measure => simp [intOf]; omega
   go_wp2
   go_roundw
   case rel => exact ⟨k + 1, by omega, by go_num, HL.out.same hlt (by rw [← HC.out]; exact (lowB_is c).resolve_right (by rw [← HN.out]; omega))⟩
   case measure => simp [intOf]; omega
  obtain rfl : k = a0.size := by omega
  have hback := run_convert_bytes_arg (P := Tryd.prog) wr 85 5 Tryd.underlying85 Tryd.underlying5 w.heap.size 0 a0.size (grownCap w a0.size 0 5) (lowRow a0 a0.size) (lowRow_len a0 _ (Nat.le_refl _)) (fun i hi => by rw [Nat.zero_add]; exact hlow.1 i hi) 9 Tryd.underlying9
  rw [lowRow_end] at hback
  have HL := Aside0.mk hlow
  clear hlow
  go_wp2
  go_ret
  exact ⟨rfl, HL.out.2.2⟩


mutual
def scheme_Of.j0 : Nat → ByteArray → Bool → Option (ByteArray × Bool)
  | 0, _, _ => none
  | k + 1, x4, x26 => if x26 = true then (some ((⟨#[]⟩ : ByteArray), false)) else (scheme_Of.l0 k x4 (x4.size : Int) 0)
def scheme_Of.l0 : Nat → ByteArray → Int → Int → Option (ByteArray × Bool)
  | 0, _, _, _ => none
  | k + 1, x4, x28, x29 => if x29 < x28 then (if 0 ≤ x29 then (if x29 < (x4.size : Int) then ((scheme_part.f (bt x4 x29)).bind fun t192 => (if t192 = true then (scheme_Of.l0 k x4 x28 (wrap64 (x29 + 1))) else (some ((⟨#[]⟩ : ByteArray), false)))) else (none)) else (none)) else ((kind_Lower.f x4).bind fun t193 => (some (t193, true)))
end
def scheme_Of.f (k : Nat) (a0 : ByteArray) : Option (ByteArray × Bool) := (scheme_tidy.f a0).bind fun t187 => ((strings_Cut.f t187 (⟨#[58]⟩ : ByteArray)).bind fun bt188 => (if bt188.2.2 = true then (if bt188.1.toList = ([] : List UInt8) then (scheme_Of.j0 k bt188.1 true) else (if 0 < (bt188.1.size : Int) then ((kind_Letter.f (bt bt188.1 0)).bind fun t191 => (scheme_Of.j0 k bt188.1 (!t191))) else (none))) else (scheme_Of.j0 k bt188.1 true)))
theorem scheme_Of.mono_l : ∀ k, (∀ y0 y1, LeO (scheme_Of.j0 k y0 y1) (scheme_Of.j0 (k + 1) y0 y1)) ∧ (∀ y0 y1 y2, LeO (scheme_Of.l0 k y0 y1 y2) (scheme_Of.l0 (k + 1) y0 y1 y2))
  | 0 => ⟨fun _ _ r h => by simp [scheme_Of.j0] at h, fun _ _ _ r h => by simp [scheme_Of.l0] at h⟩
  | k + 1 => by
    obtain ⟨ih0, ih1⟩ := scheme_Of.mono_l k
    refine ⟨?_, ?_⟩
    · intro y0 y1
      unfold scheme_Of.j0
      repeat' first
      | (with_reducible exact ih0 _ _)
      | (with_reducible exact ih1 _ _ _)
      | (with_reducible exact LeO.refl _)
      | (with_reducible exact LeO.none _)
      | (with_reducible refine LeO.ite ?_ ?_)
      | (with_reducible refine LeO.bind ?_ (fun _ => ?_))
      | exact ih0 _ _
      | exact ih1 _ _ _
      | exact LeO.none _
      | refine LeO.ite ?_ ?_
      | refine LeO.bind ?_ (fun _ => ?_)
    · intro y0 y1 y2
      unfold scheme_Of.l0
      repeat' first
      | (with_reducible exact ih0 _ _)
      | (with_reducible exact ih1 _ _ _)
      | (with_reducible exact LeO.refl _)
      | (with_reducible exact LeO.none _)
      | (with_reducible refine LeO.ite ?_ ?_)
      | (with_reducible refine LeO.bind ?_ (fun _ => ?_))
      | exact ih0 _ _
      | exact ih1 _ _ _
      | exact LeO.none _
      | refine LeO.ite ?_ ?_
      | refine LeO.bind ?_ (fun _ => ?_)
theorem scheme_Of.mono : ∀ a0 k, LeO (scheme_Of.f k a0) (scheme_Of.f (k + 1) a0) := by
  intro a0 k
  obtain ⟨ih0, ih1⟩ := scheme_Of.mono_l k
  unfold scheme_Of.f
  repeat' first
      | (with_reducible exact ih0 _ _)
      | (with_reducible exact ih1 _ _ _)
      | (with_reducible exact LeO.refl _)
      | (with_reducible exact LeO.none _)
      | (with_reducible refine LeO.ite ?_ ?_)
      | (with_reducible refine LeO.bind ?_ (fun _ => ?_))
      | exact ih0 _ _
      | exact ih1 _ _ _
      | exact LeO.none _
      | refine LeO.ite ?_ ?_
      | refine LeO.bind ?_ (fun _ => ?_)
set_option maxHeartbeats 8000000 in
set_option maxRecDepth 100000 in
theorem scheme_Of.calls (k : Nat) (a0 : ByteArray) (r1 : ByteArray) (r2 : Bool) (w : World) (h : scheme_Of.f k a0 = some (r1, r2)) :
  Calls Tryd.prog 24 #[.string a0] w fun e w' => e = .returned (.tuple #[.string r1, .bool r2]) ∧ Below w.heap.size w w' := by
 have HB := Aside0.mk (Below.refl w.heap.size w)
 have H : ((scheme_tidy.f a0).bind fun t187 => ((strings_Cut.f t187 (⟨#[58]⟩ : ByteArray)).bind fun bt188 => (if bt188.2.2 = true then (if bt188.1.toList = ([] : List UInt8) then (scheme_Of.j0 k bt188.1 true) else (if 0 < (bt188.1.size : Int) then ((kind_Letter.f (bt bt188.1 0)).bind fun t191 => (scheme_Of.j0 k bt188.1 (!t191))) else (none))) else (scheme_Of.j0 k bt188.1 true)))) = some (r1, r2) := h
 clear h
 replace H := Option.bind_eq_some_iff.mp H
 obtain ⟨t187, A20, H⟩ := H
 replace H : ((strings_Cut.f t187 (⟨#[58]⟩ : ByteArray)).bind fun bt188 => (if bt188.2.2 = true then (if bt188.1.toList = ([] : List UInt8) then (scheme_Of.j0 k bt188.1 true) else (if 0 < (bt188.1.size : Int) then ((kind_Letter.f (bt bt188.1 0)).bind fun t191 => (scheme_Of.j0 k bt188.1 (!t191))) else (none))) else (scheme_Of.j0 k bt188.1 true))) = some (r1, r2) := H
 have A2 := Aside0.mk A20
 clear A20
 replace H := Option.bind_eq_some_iff.mp H
 obtain ⟨⟨t188, t189, t190⟩, A30, H⟩ := H
 replace H : (if t190 = true then (if t188.toList = ([] : List UInt8) then (scheme_Of.j0 k t188 true) else (if 0 < (t188.size : Int) then ((kind_Letter.f (bt t188 0)).bind fun t191 => (scheme_Of.j0 k t188 (!t191))) else (none))) else (scheme_Of.j0 k t188 true)) = some (r1, r2) := H
 have A3 := Aside0.mk A30
 clear A30
 have HC4 := Aside0.mk H
 clear H
 go_enter Tryd.func24, Tryd.ntmps24
 go_upto_region 2 with (first | ((with_reducible refine gate_callee (f := 57) rfl ?_); refine goL (some 10) Tryd.func57 #[.string a0] ?_; (with_reducible refine (scheme_tidy.calls a0 t187 _ A2.out).mono ?_); rintro e w5 ⟨rfl, hb⟩; refine ⟨_, rfl, ?_⟩; replace HB := Bs hb; clear hb) | ((with_reducible refine gate_callee (f := 56) rfl ?_); refine goL (some 11) Tryd.func56 #[.string t187, .string (⟨#[58]⟩ : ByteArray)] ?_; (with_reducible refine (strings_Cut.calls t187 (⟨#[58]⟩ : ByteArray) t188 t189 t190 _ A3.out).mono ?_); rintro e w' ⟨rfl, ⟨nd, rfl⟩⟩; refine ⟨_, rfl, ?_⟩))
 (try simp only [Act.put, List.setIfInBounds_toArray, List.set_cons_zero, List.set_cons_succ])
 go_cut [26] (fun v26 wc => ∃ (kq : Nat) (x26_3 : Bool), v26 = .bool x26_3 ∧ Aside0 (scheme_Of.j0 kq t188 x26_3 = some (r1, r2)) ∧ Aside0 (kq ≤ k) ∧ Aside0 (Below w.heap.size w wc))
 case first =>
  have H := HC4.out
  clear HC4
  by_cases c6 : t190 = true
  ·subst c6
   have H1 : (if t188.toList = ([] : List UInt8) then (scheme_Of.j0 k t188 true) else (if 0 < (t188.size : Int) then ((kind_Letter.f (bt t188 0)).bind fun t191 => (scheme_Of.j0 k t188 (!t191))) else (none))) = some (r1, r2) := by rw [if_pos rfl] at H; exact H
   clear H
   have H := H1
   clear H1
   by_cases c7 : t188.toList = ([] : List UInt8)
   ·rw [if_pos c7] at H
    have c7b0 : (t188.toList == ([] : List UInt8)) = true := beq_iff_eq.mpr c7
    have c7b1 : (t188.toList != ([] : List UInt8)) = false := bne_eq_false_iff_eq.mpr c7
    clear c7
    (first | rw [c7b0] | (simp only [i64_w, i32_w]; rw [c7b0]) | skip)
    have H' := Aside0.mk H
    clear H
    go_wp2
    go_meet
    case rel => exact ⟨_, (true), Rs, H', ⟨On⟩, ⟨Bw⟩⟩
   rw [if_neg c7] at H
   have c7b0 : (t188.toList == ([] : List UInt8)) = false := beq_eq_false_iff_ne.mpr c7
   have c7b1 : (t188.toList != ([] : List UInt8)) = true := bne_iff_ne.mpr c7
   (first | rw [c7b0] | (simp only [i64_w, i32_w]; rw [c7b0]) | skip)
   by_cases c8 : 0 < (t188.size : Int)
   ·rw [if_pos c8] at H
    have c8b0 : decide (0 < (t188.size : Int)) = true := decide_eq_true c8
    have c8b1 : decide (0 < t188.size) = true := decide_eq_true (by omega)
    clear c8
    replace H := Option.bind_eq_some_iff.mp H
    obtain ⟨t191, A100, H⟩ := H
    replace H : (scheme_Of.j0 k t188 (!t191)) = some (r1, r2) := H
    have A10 := Aside0.mk A100
    clear A100
    have H' := Aside0.mk H
    clear H
    have p9 : 0 ≤ (0 : Int) := (by omega)
    have q9 : 0 < t188.size := (by have : (0 : Int) < (t188.size : Int) := of_decide_eq_true Dt; omega)
    have hx9 : ∀ h : 0 < t188.size, ((t188[0]'h).toNat : Int) = bt t188 0 := bt_at t188 0
    clear p9
    have qi9 : (0 < (t188.size : Int)) = True := eq_true (of_decide_eq_true Dt)
    replace q9 := eq_true q9
    go_wp2_with (first | (go_at_call 58; (with_reducible refine (kind_Letter.calls (bt t188 0) t191 _ A10.out).mono ?_); rintro e w' ⟨rfl, ⟨nd, rfl⟩⟩))
    go_meet
    case rel => exact ⟨_, (!t191), Rs, H', ⟨On⟩, ⟨Bw⟩⟩
   rw [if_neg c8] at H
   exact absurd H (by simp)
  replace c6 := Bool.eq_false_iff.mpr c6
  subst c6
  have H1 : (scheme_Of.j0 k t188 true) = some (r1, r2) := by rw [if_neg (show ¬ (false = true) by decide)] at H; exact H
  clear H
  have H := H1
  clear H1
  have H' := Aside0.mk H
  clear H
  go_wp2
  go_meet
  case rel => exact ⟨_, (true), Rs, H', ⟨On⟩, ⟨Bw⟩⟩
 case rest =>
  clear HC4
  try clear c2
  try clear p2
  try clear c5
  try clear c6
  try clear c7
  try clear c7b0
  try clear c7b1
  try clear c8
  try clear c8b0
  try clear c8b1
  try clear p9
  try clear q9
  try clear hx9
  try clear qi9
  try clear p9
  try clear q9
  obtain ⟨kq, x26_3, rfl, HA, HJ3, HB⟩ := hcut
  cases kq with
  | zero => exact absurd HA.out (by simp [scheme_Of.j0])
  | succ kj3 =>
   have H := HA.out
   clear HA
   simp only [scheme_Of.j0] at H
   by_cases c11 : x26_3 = true
   ·subst c11
    have H1 : (some ((⟨#[]⟩ : ByteArray), false)) = some (r1, r2) := by rw [if_pos rfl] at H; exact H
    clear H
    have H := H1
    clear H1
    simp only [Option.some.injEq, Prod.mk.injEq] at H
    obtain ⟨rfl, rfl⟩ := H
    go_wp2
    go_ret2
    exact ⟨Re, Bw⟩
   replace c11 := Bool.eq_false_iff.mpr c11
   subst c11
   have H1 : (scheme_Of.l0 kj3 t188 (t188.size : Int) 0) = some (r1, r2) := by rw [if_neg (show ¬ (false = true) by decide)] at H; exact H
   clear H
   have H := H1
   clear H1
   have H' := Aside0.mk H
   clear H
   go_wp2
   go_loopg [29] kj3 (fun kq v29 w' => ∃ (x29_2 : Int), v29 = .int .i64 x29_2 ∧ Aside0 (scheme_Of.l0 kq t188 (t188.size : Int) x29_2 = some (r1, r2)) ∧ Aside0 (kq ≤ kj3) ∧ Aside0 (Below w.heap.size w w'))
   case atStart => exact ⟨(0), Rs, H', ⟨Nat.le_refl _⟩, ⟨Bw⟩⟩
   case round =>
    clear H'
    try clear c1
    try clear c2
    try clear p2
    try clear c5
    try clear c6
    try clear c7
    try clear c7b0
    try clear c7b1
    try clear c8
    try clear c8b0
    try clear c8b1
    try clear p9
    try clear q9
    try clear hx9
    try clear qi9
    try clear c11
    try clear p2
    try clear p9
    try clear q9
    obtain ⟨x29_2, rfl, HA, HK2, HB⟩ := hrel
    cases gk with
    | zero => exact absurd HA.out (by simp [scheme_Of.l0])
    | succ k2 =>
     have H := HA.out
     clear HA
     simp only [scheme_Of.l0] at H
     by_cases c12 : x29_2 < (t188.size : Int)
     ·rw [if_pos c12] at H
      have c12b0 : decide (x29_2 < (t188.size : Int)) = true := decide_eq_true c12
      clear c12
      by_cases c13 : 0 ≤ x29_2
      ·rw [if_pos c13] at H
       have c13b0 : decide (0 ≤ x29_2) = true := decide_eq_true c13
       clear c13
       by_cases c14 : x29_2 < (t188.size : Int)
       ·rw [if_pos c14] at H
        have c14b0 : decide (x29_2 < (t188.size : Int)) = true := decide_eq_true c14
        clear c14
        replace H := Option.bind_eq_some_iff.mp H
        obtain ⟨t192, A160, H⟩ := H
        replace H : (if t192 = true then (scheme_Of.l0 k2 t188 (t188.size : Int) (wrap64 (x29_2 + 1))) else (some ((⟨#[]⟩ : ByteArray), false))) = some (r1, r2) := H
        have A16 := Aside0.mk A160
        clear A160
        by_cases c17 : t192 = true
        ·subst c17
         have H1 : (scheme_Of.l0 k2 t188 (t188.size : Int) (wrap64 (x29_2 + 1))) = some (r1, r2) := by rw [if_pos rfl] at H; exact H
         clear H
         have H := H1
         clear H1
         have H' := Aside0.mk H
         clear H
         have p15 : 0 ≤ (x29_2 : Int) := of_decide_eq_true Dt
         have q15 : x29_2 < (t188.size : Int) := of_decide_eq_true Dt
         have hx15 := bt_at t188 x29_2
         replace p15 := eq_true p15
         replace q15 := eq_true q15
         go_wp2_with (first | ((with_reducible refine gate_callee (f := 59) rfl ?_); refine goL (some 35) Tryd.func59 #[.int .u8 (bt t188 x29_2)] ?_; (with_reducible refine (scheme_part.calls (bt t188 x29_2) true _ A16.out).mono ?_); rintro e w' ⟨rfl, ⟨nd, rfl⟩⟩; refine ⟨_, rfl, ?_⟩))
         go_roundg k2
         case measure => have := HJ3.out; have := HK2.out; omega
         case rel => exact ⟨(wrap64 (x29_2 + 1)), Rs, H', ⟨by have := HJ3.out; have := HK2.out; omega⟩, ⟨Bw⟩⟩
        replace c17 := Bool.eq_false_iff.mpr c17
        subst c17
        have H1 : (some ((⟨#[]⟩ : ByteArray), false)) = some (r1, r2) := by rw [if_neg (show ¬ (false = true) by decide)] at H; exact H
        clear H
        have H := H1
        clear H1
        simp only [Option.some.injEq, Prod.mk.injEq] at H
        obtain ⟨rfl, rfl⟩ := H
        have p15 : 0 ≤ (x29_2 : Int) := of_decide_eq_true Dt
        have q15 : x29_2 < (t188.size : Int) := of_decide_eq_true Dt
        have hx15 := bt_at t188 x29_2
        replace p15 := eq_true p15
        replace q15 := eq_true q15
        go_wp2_with (first | ((with_reducible refine gate_callee (f := 59) rfl ?_); refine goL (some 35) Tryd.func59 #[.int .u8 (bt t188 x29_2)] ?_; (with_reducible refine (scheme_part.calls (bt t188 x29_2) false _ A16.out).mono ?_); rintro e w' ⟨rfl, ⟨nd, rfl⟩⟩; refine ⟨_, rfl, ?_⟩))
        go_ret2
        exact ⟨Re, Bw⟩
       rw [if_neg c14] at H
       exact absurd H (by simp)
      rw [if_neg c13] at H
      exact absurd H (by simp)
     rw [if_neg c12] at H
     have c12b0 : decide (x29_2 < (t188.size : Int)) = false := decide_eq_false c12
     clear c12
     replace H := Option.bind_eq_some_iff.mp H
     obtain ⟨t193, A180, H⟩ := H
     replace H : (some (t193, true)) = some (r1, r2) := H
     have A18 := Aside0.mk A180
     clear A180
     simp only [Option.some.injEq, Prod.mk.injEq] at H
     obtain ⟨rfl, rfl⟩ := H
     go_wp2_with (first | ((with_reducible refine gate_callee (f := 60) rfl ?_); refine goL (some 39) Tryd.func60 #[.string t188] ?_; (with_reducible refine (kind_Lower.calls t188 t193 _ A18.out).mono ?_); rintro e w19 ⟨rfl, hb⟩; refine ⟨_, rfl, ?_⟩; replace HB := Bs hb; clear hb))
     go_ret2
     exact ⟨Re, Bw⟩

def scheme_Safe.f (k : Nat) (a0 : ByteArray) (l1 : List ByteArray) : Option (Bool) := (scheme_Of.f k a0).bind fun bt194 => (if bt194.2 = true then ((slices_Contains_string_string.f k l1 bt194.1).bind fun t196 => (some t196)) else (some true))
theorem scheme_Safe.mono : ∀ a0 a1 k, LeO (scheme_Safe.f k a0 a1) (scheme_Safe.f (k + 1) a0 a1) := by
  intro a0 a1 k
  unfold scheme_Safe.f
  repeat' first
      | (with_reducible exact scheme_Of.mono _ _)
      | (with_reducible exact slices_Contains_string_string.mono _ _ _)
      | (with_reducible exact LeO.refl _)
      | (with_reducible exact LeO.none _)
      | (with_reducible refine LeO.ite ?_ ?_)
      | (with_reducible refine LeO.bind ?_ (fun _ => ?_))
      | exact scheme_Of.mono _ _
      | exact slices_Contains_string_string.mono _ _ _
      | exact LeO.none _
      | refine LeO.ite ?_ ?_
      | refine LeO.bind ?_ (fun _ => ?_)
set_option maxHeartbeats 8000000 in
set_option maxRecDepth 100000 in
theorem scheme_Safe.calls (k : Nat) (a0 : ByteArray) (A1 : Option Addr) (c1 : Nat) (l1 : List ByteArray) (r : Bool) (w : World) (hr1 : Kd.C Kd.string w A1 l1.length l1) (hc1 : l1.length ≤ c1) (h : scheme_Safe.f k a0 l1 = some r) :
    Calls Tryd.prog 75 #[.string a0, .slice A1 l1.length c1] w fun e w' => e = .returned (.bool r) ∧ Below w.heap.size w w' := by
  have HR1 := Aside0.mk hr1
  have HC1 := Aside0.mk hc1
  clear hr1 hc1
  have HB := Aside0.mk (Below.refl w.heap.size w)
  have H : ((scheme_Of.f k a0).bind fun bt194 => (if bt194.2 = true then ((slices_Contains_string_string.f k l1 bt194.1).bind fun t196 => (some t196)) else (some true))) = some r := h
  clear h
  replace H := Option.bind_eq_some_iff.mp H
  obtain ⟨⟨t194, t195⟩, A30, H⟩ := H
  try dsimp -simprocs only at H
  have A3 := Aside0.mk A30
  clear A30
  by_cases c4 : t195 = true
  · subst c4
    rw [if_pos rfl] at H
    replace H := Option.bind_eq_some_iff.mp H
    obtain ⟨t196, A50, H⟩ := H
    replace H : (some t196) = some r := H
    have A5 := Aside0.mk A50
    clear A50
    obtain rfl := Option.some.inj H
    go_enter Tryd.func75, Tryd.ntmps75
    go_wp2_with (first | ((with_reducible refine gate_callee (f := 24) rfl ?_); refine goL (some 9) Tryd.func24 #[.string a0] ?_; (with_reducible refine (scheme_Of.calls k a0 t194 true _ A3.out).mono ?_); rintro e w6 ⟨rfl, hb⟩; refine ⟨_, rfl, ?_⟩; replace HB := Aside0.mk (below_step Bw hb); (try clear hb); (try clear hb2); (try clear hk); (try clear hi)) | (go_at_call 31; (with_reducible refine (slices_Contains_string_string.calls k _ _ l1 t194 t196 _ (Cs HR1) HC1.out A5.out).mono ?_); rintro e w' ⟨rfl, ⟨nd, rfl⟩⟩))
    go_ret
    exact ⟨Re, Bw⟩
  · replace c4 := Bool.eq_false_iff.mpr c4
    subst c4
    rw [if_neg (show ¬ (false = true) by decide)] at H
    obtain rfl := Option.some.inj H
    go_enter Tryd.func75, Tryd.ntmps75
    go_wp2_with (first | ((with_reducible refine gate_callee (f := 24) rfl ?_); refine goL (some 9) Tryd.func24 #[.string a0] ?_; (with_reducible refine (scheme_Of.calls k a0 t194 false _ A3.out).mono ?_); rintro e w7 ⟨rfl, hb⟩; refine ⟨_, rfl, ?_⟩; replace HB := Aside0.mk (below_step Bw hb); (try clear hb); (try clear hb2); (try clear hk); (try clear hi)))
    go_ret
    exact ⟨Re, Bw⟩

def policy_let.f (k : Nat) (l0_0 : List (S53)) (l0_1 : List ByteArray) (l0_2 : List ByteArray) (l0_3 : List ByteArray) (a0_4 : Int) (a1_0 : ByteArray) (l1_1 : List ByteArray) (a2_0 : ByteArray) (a2_1 : ByteArray) : Option (Bool) := (slices_Contains_string_string.f k l1_1 a2_0).bind fun t200 => (if t200 = true then ((slices_Contains_string_string.f k l0_1 a2_0).bind fun t201 => (if t201 = true then ((scheme_Safe.f k a2_1 l0_2).bind fun t202 => (some t202)) else (some true))) else (some false))
theorem policy_let.mono : ∀ a0 a1 a2 a3 a4 a5 a6 a7 a8 k, LeO (policy_let.f k a0 a1 a2 a3 a4 a5 a6 a7 a8) (policy_let.f (k + 1) a0 a1 a2 a3 a4 a5 a6 a7 a8) := by
  intro a0 a1 a2 a3 a4 a5 a6 a7 a8 k
  unfold policy_let.f
  repeat' first
      | (with_reducible exact scheme_Safe.mono _ _ _)
      | (with_reducible exact slices_Contains_string_string.mono _ _ _)
      | (with_reducible exact LeO.refl _)
      | (with_reducible exact LeO.none _)
      | (with_reducible refine LeO.ite ?_ ?_)
      | (with_reducible refine LeO.bind ?_ (fun _ => ?_))
      | exact scheme_Safe.mono _ _ _
      | exact slices_Contains_string_string.mono _ _ _
      | exact LeO.none _
      | refine LeO.ite ?_ ?_
      | refine LeO.bind ?_ (fun _ => ?_)
set_option maxHeartbeats 8000000 in
set_option maxRecDepth 100000 in
theorem policy_let.calls (k : Nat) (A0_0 : Option Addr) (c0_0 : Nat) (l0_0 : List (S53)) (A0_1 : Option Addr) (c0_1 : Nat) (l0_1 : List ByteArray) (A0_2 : Option Addr) (c0_2 : Nat) (l0_2 : List ByteArray) (A0_3 : Option Addr) (c0_3 : Nat) (l0_3 : List ByteArray) (a0_4 : Int) (a1_0 : ByteArray) (A1_1 : Option Addr) (c1_1 : Nat) (l1_1 : List ByteArray) (a2_0 : ByteArray) (a2_1 : ByteArray) (r : Bool) (w : World) (hr0_0 : Kd.C k53 w A0_0 l0_0.length l0_0) (hc0_0 : l0_0.length ≤ c0_0) (hr0_1 : Kd.C Kd.string w A0_1 l0_1.length l0_1) (hc0_1 : l0_1.length ≤ c0_1) (hr0_2 : Kd.C Kd.string w A0_2 l0_2.length l0_2) (hc0_2 : l0_2.length ≤ c0_2) (hr0_3 : Kd.C Kd.string w A0_3 l0_3.length l0_3) (hc0_3 : l0_3.length ≤ c0_3) (hr1_1 : Kd.C Kd.string w A1_1 l1_1.length l1_1) (hc1_1 : l1_1.length ≤ c1_1) (h : policy_let.f k l0_0 l0_1 l0_2 l0_3 a0_4 a1_0 l1_1 a2_0 a2_1 = some r) :
  Calls Tryd.prog 42 #[.agg #[.slice A0_0 l0_0.length c0_0, .slice A0_1 l0_1.length c0_1, .slice A0_2 l0_2.length c0_2, .slice A0_3 l0_3.length c0_3, .int .i64 a0_4], .agg #[.string a1_0, .slice A1_1 l1_1.length c1_1], .agg #[.string a2_0, .string a2_1]] w fun e w' => e = .returned (.bool r) ∧ Below w.heap.size w w' := by
 have hu25 := Tryd.underlying25
 have hu53 := Tryd.underlying53
 have hu35 := Tryd.underlying35
 have HR0_0 := Aside0.mk hr0_0
 have HC0_0 := Aside0.mk hc0_0
 clear hr0_0 hc0_0
 have HR0_1 := Aside0.mk hr0_1
 have HC0_1 := Aside0.mk hc0_1
 clear hr0_1 hc0_1
 have HR0_2 := Aside0.mk hr0_2
 have HC0_2 := Aside0.mk hc0_2
 clear hr0_2 hc0_2
 have HR0_3 := Aside0.mk hr0_3
 have HC0_3 := Aside0.mk hc0_3
 clear hr0_3 hc0_3
 have HR1_1 := Aside0.mk hr1_1
 have HC1_1 := Aside0.mk hc1_1
 clear hr1_1 hc1_1
 have HB := Aside0.mk (Below.refl w.heap.size w)
 have H := h
 clear h
 unfold policy_let.f at H
 replace H := Option.bind_eq_some_iff.mp H
 obtain ⟨t200, A40, H⟩ := H
 try dsimp -simprocs only at H
 have A4 := Aside0.mk A40
 clear A40
 by_cases c5 : t200 = true
 ·subst c5
  rw [if_pos rfl] at H
  replace H := Option.bind_eq_some_iff.mp H
  obtain ⟨t201, A60, H⟩ := H
  try dsimp -simprocs only at H
  have A6 := Aside0.mk A60
  clear A60
  by_cases c7 : t201 = true
  ·subst c7
   rw [if_pos rfl] at H
   replace H := Option.bind_eq_some_iff.mp H
   obtain ⟨t202, A80, H⟩ := H
   replace H : (some t202) = some r := H
   have A8 := Aside0.mk A80
   clear A80
   obtain rfl := Option.some.inj H
   go_enter Tryd.func42, Tryd.ntmps42
   go_wp2_with (first | ((with_reducible refine gate_dst (N := 3) rfl ?_); refine box5 25 3 (cs := #[.slice A0_0 l0_0.length c0_0, .slice A0_1 l0_1.length c0_1, .slice A0_2 l0_2.length c0_2, .slice A0_3 l0_3.length c0_3, .int .i64 a0_4]) ?_; clear HB; intro gb197 w9 HB BK197 GE197) | ((with_reducible refine gate_dst (N := 4) rfl ?_); refine box_event ?hg (N := 4) ?hd (cs := #[.string a1_0, .slice A1_1 l1_1.length c1_1]) (t := 53) ?hr ?_; (case hd => rfl); (case hg => rfl); (case hr => first | (go_simp; done) | (go_simp; rfl)); intro gb198 hg w10 hbox hb; have n0_ := Bb BK197 hb; have n1_ := Bs hb; have n2_ := Aside0.mk (hbox); have n3_ := Aside0.mk (Gg hg); have n4_ := Aside0.mk (Gg hg); have n5_ := Aside0.mk ((by rw [hg]; exact Nat.ne_of_lt (blk_lt (g := gb197) (o := .cells #[.slice A0_0 l0_0.length c0_0, .slice A0_1 l0_1.length c0_1, .slice A0_2 l0_2.length c0_2, .slice A0_3 l0_3.length c0_3, .int .i64 a0_4] 25 (0, 0)) (Bk BK197)) : gb197 ≠ gb198)); have n6_ := Aside0.mk ((by rw [hg]; exact Nat.ne_of_gt (blk_lt (g := gb197) (o := .cells #[.slice A0_0 l0_0.length c0_0, .slice A0_1 l0_1.length c0_1, .slice A0_2 l0_2.length c0_2, .slice A0_3 l0_3.length c0_3, .int .i64 a0_4] 25 (0, 0)) (Bk BK197)) : gb198 ≠ gb197)); clear BK197; clear HB; have BK197 := n0_; have HB := n1_; have BK198 := n2_; have GW198 := n3_; have GE198 := n4_; have NB197_198 := n5_; have NB198_197 := n6_; clear n0_ n1_ n2_ n3_ n4_ n5_ n6_; clear hb hbox hg) | ((with_reducible refine gate_dst (N := 5) rfl ?_); refine box_event ?hg (N := 5) ?hd (cs := #[.string a2_0, .string a2_1]) (t := 35) ?hr ?_; (case hd => rfl); (case hg => rfl); (case hr => first | (go_simp; done) | (go_simp; rfl)); intro gb199 hg w11 hbox hb; have n0_ := Bb BK197 hb; have n1_ := Bb BK198 hb; have n2_ := Bs hb; have n3_ := Aside0.mk (hbox); have n4_ := Aside0.mk (Gg hg); have n5_ := Aside0.mk (Gg hg); have n6_ := Aside0.mk ((by rw [hg]; exact Nat.ne_of_lt (blk_lt (g := gb197) (o := .cells #[.slice A0_0 l0_0.length c0_0, .slice A0_1 l0_1.length c0_1, .slice A0_2 l0_2.length c0_2, .slice A0_3 l0_3.length c0_3, .int .i64 a0_4] 25 (0, 0)) (Bk BK197)) : gb197 ≠ gb199)); have n7_ := Aside0.mk ((by rw [hg]; exact Nat.ne_of_gt (blk_lt (g := gb197) (o := .cells #[.slice A0_0 l0_0.length c0_0, .slice A0_1 l0_1.length c0_1, .slice A0_2 l0_2.length c0_2, .slice A0_3 l0_3.length c0_3, .int .i64 a0_4] 25 (0, 0)) (Bk BK197)) : gb199 ≠ gb197)); have n8_ := Aside0.mk ((by rw [hg]; exact Nat.ne_of_lt (blk_lt (g := gb198) (o := .cells #[.string a1_0, .slice A1_1 l1_1.length c1_1] 53 (0, 0)) (Bk BK198)) : gb198 ≠ gb199)); have n9_ := Aside0.mk ((by rw [hg]; exact Nat.ne_of_gt (blk_lt (g := gb198) (o := .cells #[.string a1_0, .slice A1_1 l1_1.length c1_1] 53 (0, 0)) (Bk BK198)) : gb199 ≠ gb198)); clear BK197; clear BK198; clear HB; have BK197 := n0_; have BK198 := n1_; have HB := n2_; have BK199 := n3_; have GW199 := n4_; have GE199 := n5_; have NB197_199 := n6_; have NB199_197 := n7_; have NB198_199 := n8_; have NB199_198 := n9_; clear n0_ n1_ n2_ n3_ n4_ n5_ n6_ n7_ n8_ n9_; clear hb hbox hg; have hnb12 := NB198_197.out; have hnc12 := NB197_198.out; have hnb13 := NB198_199.out; have hnc13 := NB199_198.out; obtain ⟨hcz14_0, hcz14_1, hfz14_0, hfz14_1⟩ := cells2 BK198; have hnb15 := NB199_197.out; have hnc15 := NB197_199.out; obtain ⟨hcz16_0, hcz16_1, hfz16_0, hfz16_1⟩ := cells2 BK199) | ((with_reducible refine gate_callee (f := 31) rfl ?_); refine goL (some 11) Tryd.func31 #[.slice A1_1 l1_1.length c1_1, .string a2_0] ?_; (with_reducible refine (slices_Contains_string_string.calls k _ _ l1_1 a2_0 true _ (Cs HR1_1) HC1_1.out A4.out).mono ?_); rintro e w' ⟨rfl, ⟨nd, rfl⟩⟩; refine ⟨_, rfl, ?_⟩; obtain ⟨hcz17_0, hcz17_1, hcz17_2, hcz17_3, hcz17_4, hfz17_0, hfz17_1, hfz17_2, hfz17_3, hfz17_4⟩ := cells5 BK197) | (go_at_call 31; (with_reducible refine (slices_Contains_string_string.calls k _ _ l0_1 a2_0 true _ ?side1 HC0_1.out A6.out).mono ?_); (case side1 => repeat (first | exact (Kd.C_below HR0_1.out Bw) | (with_reducible refine Kd.C_alloc ?_ _) | (with_reducible refine Kd.C_drewN ?_ _) | (with_reducible refine Kd.C_drew ?_))); rintro e w' ⟨rfl, ⟨nd, rfl⟩⟩) | (go_at_call 75; (with_reducible refine (scheme_Safe.calls k a2_1 _ _ l0_2 t202 _ ?side1 HC0_2.out A8.out).mono ?_); (case side1 => repeat (first | exact (Kd.C_below HR0_2.out Bw) | (with_reducible refine Kd.C_alloc ?_ _) | (with_reducible refine Kd.C_drewN ?_ _) | (with_reducible refine Kd.C_drew ?_))); rintro e w18 ⟨rfl, hb⟩; replace BK197 := Bb BK197 hb; replace BK198 := Bb BK198 hb; replace BK199 := Bb BK199 hb; replace HB := Bs hb; clear hb))
   go_ret
   exact ⟨Re, Bw⟩
  replace c7 := Bool.eq_false_iff.mpr c7
  subst c7
  rw [if_neg (show ¬ (false = true) by decide)] at H
  obtain rfl := Option.some.inj H
  go_enter Tryd.func42, Tryd.ntmps42
  go_wp2_with (first | ((with_reducible refine gate_dst (N := 3) rfl ?_); refine box5 25 3 (cs := #[.slice A0_0 l0_0.length c0_0, .slice A0_1 l0_1.length c0_1, .slice A0_2 l0_2.length c0_2, .slice A0_3 l0_3.length c0_3, .int .i64 a0_4]) ?_; clear HB; intro gb197 w19 HB BK197 GE197) | ((with_reducible refine gate_dst (N := 4) rfl ?_); refine box_event ?hg (N := 4) ?hd (cs := #[.string a1_0, .slice A1_1 l1_1.length c1_1]) (t := 53) ?hr ?_; (case hd => rfl); (case hg => rfl); (case hr => first | (go_simp; done) | (go_simp; rfl)); intro gb198 hg w20 hbox hb; have n0_ := Bb BK197 hb; have n1_ := Bs hb; have n2_ := Aside0.mk (hbox); have n3_ := Aside0.mk (Gg hg); have n4_ := Aside0.mk (Gg hg); have n5_ := Aside0.mk ((by rw [hg]; exact Nat.ne_of_lt (blk_lt (g := gb197) (o := .cells #[.slice A0_0 l0_0.length c0_0, .slice A0_1 l0_1.length c0_1, .slice A0_2 l0_2.length c0_2, .slice A0_3 l0_3.length c0_3, .int .i64 a0_4] 25 (0, 0)) (Bk BK197)) : gb197 ≠ gb198)); have n6_ := Aside0.mk ((by rw [hg]; exact Nat.ne_of_gt (blk_lt (g := gb197) (o := .cells #[.slice A0_0 l0_0.length c0_0, .slice A0_1 l0_1.length c0_1, .slice A0_2 l0_2.length c0_2, .slice A0_3 l0_3.length c0_3, .int .i64 a0_4] 25 (0, 0)) (Bk BK197)) : gb198 ≠ gb197)); clear BK197; clear HB; have BK197 := n0_; have HB := n1_; have BK198 := n2_; have GW198 := n3_; have GE198 := n4_; have NB197_198 := n5_; have NB198_197 := n6_; clear n0_ n1_ n2_ n3_ n4_ n5_ n6_; clear hb hbox hg) | ((with_reducible refine gate_dst (N := 5) rfl ?_); refine box_event ?hg (N := 5) ?hd (cs := #[.string a2_0, .string a2_1]) (t := 35) ?hr ?_; (case hd => rfl); (case hg => rfl); (case hr => first | (go_simp; done) | (go_simp; rfl)); intro gb199 hg w21 hbox hb; have n0_ := Bb BK197 hb; have n1_ := Bb BK198 hb; have n2_ := Bs hb; have n3_ := Aside0.mk (hbox); have n4_ := Aside0.mk (Gg hg); have n5_ := Aside0.mk (Gg hg); have n6_ := Aside0.mk ((by rw [hg]; exact Nat.ne_of_lt (blk_lt (g := gb197) (o := .cells #[.slice A0_0 l0_0.length c0_0, .slice A0_1 l0_1.length c0_1, .slice A0_2 l0_2.length c0_2, .slice A0_3 l0_3.length c0_3, .int .i64 a0_4] 25 (0, 0)) (Bk BK197)) : gb197 ≠ gb199)); have n7_ := Aside0.mk ((by rw [hg]; exact Nat.ne_of_gt (blk_lt (g := gb197) (o := .cells #[.slice A0_0 l0_0.length c0_0, .slice A0_1 l0_1.length c0_1, .slice A0_2 l0_2.length c0_2, .slice A0_3 l0_3.length c0_3, .int .i64 a0_4] 25 (0, 0)) (Bk BK197)) : gb199 ≠ gb197)); have n8_ := Aside0.mk ((by rw [hg]; exact Nat.ne_of_lt (blk_lt (g := gb198) (o := .cells #[.string a1_0, .slice A1_1 l1_1.length c1_1] 53 (0, 0)) (Bk BK198)) : gb198 ≠ gb199)); have n9_ := Aside0.mk ((by rw [hg]; exact Nat.ne_of_gt (blk_lt (g := gb198) (o := .cells #[.string a1_0, .slice A1_1 l1_1.length c1_1] 53 (0, 0)) (Bk BK198)) : gb199 ≠ gb198)); clear BK197; clear BK198; clear HB; have BK197 := n0_; have BK198 := n1_; have HB := n2_; have BK199 := n3_; have GW199 := n4_; have GE199 := n5_; have NB197_199 := n6_; have NB199_197 := n7_; have NB198_199 := n8_; have NB199_198 := n9_; clear n0_ n1_ n2_ n3_ n4_ n5_ n6_ n7_ n8_ n9_; clear hb hbox hg; have hnb22 := NB198_197.out; have hnc22 := NB197_198.out; have hnb23 := NB198_199.out; have hnc23 := NB199_198.out; obtain ⟨hcz24_0, hcz24_1, hfz24_0, hfz24_1⟩ := cells2 BK198; have hnb25 := NB199_197.out; have hnc25 := NB197_199.out; obtain ⟨hcz26_0, hcz26_1, hfz26_0, hfz26_1⟩ := cells2 BK199) | ((with_reducible refine gate_callee (f := 31) rfl ?_); refine goL (some 11) Tryd.func31 #[.slice A1_1 l1_1.length c1_1, .string a2_0] ?_; (with_reducible refine (slices_Contains_string_string.calls k _ _ l1_1 a2_0 true _ (Cs HR1_1) HC1_1.out A4.out).mono ?_); rintro e w' ⟨rfl, ⟨nd, rfl⟩⟩; refine ⟨_, rfl, ?_⟩; obtain ⟨hcz27_0, hcz27_1, hcz27_2, hcz27_3, hcz27_4, hfz27_0, hfz27_1, hfz27_2, hfz27_3, hfz27_4⟩ := cells5 BK197) | (go_at_call 31; (with_reducible refine (slices_Contains_string_string.calls k _ _ l0_1 a2_0 false _ ?side1 HC0_1.out A6.out).mono ?_); (case side1 => repeat (first | exact (Kd.C_below HR0_1.out Bw) | (with_reducible refine Kd.C_alloc ?_ _) | (with_reducible refine Kd.C_drewN ?_ _) | (with_reducible refine Kd.C_drew ?_))); rintro e w' ⟨rfl, ⟨nd, rfl⟩⟩))
  go_ret
  exact ⟨Re, Bw⟩
 replace c5 := Bool.eq_false_iff.mpr c5
 subst c5
 rw [if_neg (show ¬ (false = true) by decide)] at H
 obtain rfl := Option.some.inj H
 go_enter Tryd.func42, Tryd.ntmps42
 go_wp2_with (first | ((with_reducible refine gate_dst (N := 3) rfl ?_); refine box5 25 3 (cs := #[.slice A0_0 l0_0.length c0_0, .slice A0_1 l0_1.length c0_1, .slice A0_2 l0_2.length c0_2, .slice A0_3 l0_3.length c0_3, .int .i64 a0_4]) ?_; clear HB; intro gb197 w28 HB BK197 GE197) | ((with_reducible refine gate_dst (N := 4) rfl ?_); refine box_event ?hg (N := 4) ?hd (cs := #[.string a1_0, .slice A1_1 l1_1.length c1_1]) (t := 53) ?hr ?_; (case hd => rfl); (case hg => rfl); (case hr => first | (go_simp; done) | (go_simp; rfl)); intro gb198 hg w29 hbox hb; have n0_ := Bb BK197 hb; have n1_ := Bs hb; have n2_ := Aside0.mk (hbox); have n3_ := Aside0.mk (Gg hg); have n4_ := Aside0.mk (Gg hg); have n5_ := Aside0.mk ((by rw [hg]; exact Nat.ne_of_lt (blk_lt (g := gb197) (o := .cells #[.slice A0_0 l0_0.length c0_0, .slice A0_1 l0_1.length c0_1, .slice A0_2 l0_2.length c0_2, .slice A0_3 l0_3.length c0_3, .int .i64 a0_4] 25 (0, 0)) (Bk BK197)) : gb197 ≠ gb198)); have n6_ := Aside0.mk ((by rw [hg]; exact Nat.ne_of_gt (blk_lt (g := gb197) (o := .cells #[.slice A0_0 l0_0.length c0_0, .slice A0_1 l0_1.length c0_1, .slice A0_2 l0_2.length c0_2, .slice A0_3 l0_3.length c0_3, .int .i64 a0_4] 25 (0, 0)) (Bk BK197)) : gb198 ≠ gb197)); clear BK197; clear HB; have BK197 := n0_; have HB := n1_; have BK198 := n2_; have GW198 := n3_; have GE198 := n4_; have NB197_198 := n5_; have NB198_197 := n6_; clear n0_ n1_ n2_ n3_ n4_ n5_ n6_; clear hb hbox hg) | ((with_reducible refine gate_dst (N := 5) rfl ?_); refine box_event ?hg (N := 5) ?hd (cs := #[.string a2_0, .string a2_1]) (t := 35) ?hr ?_; (case hd => rfl); (case hg => rfl); (case hr => first | (go_simp; done) | (go_simp; rfl)); intro gb199 hg w30 hbox hb; have n0_ := Bb BK197 hb; have n1_ := Bb BK198 hb; have n2_ := Bs hb; have n3_ := Aside0.mk (hbox); have n4_ := Aside0.mk (Gg hg); have n5_ := Aside0.mk (Gg hg); have n6_ := Aside0.mk ((by rw [hg]; exact Nat.ne_of_lt (blk_lt (g := gb197) (o := .cells #[.slice A0_0 l0_0.length c0_0, .slice A0_1 l0_1.length c0_1, .slice A0_2 l0_2.length c0_2, .slice A0_3 l0_3.length c0_3, .int .i64 a0_4] 25 (0, 0)) (Bk BK197)) : gb197 ≠ gb199)); have n7_ := Aside0.mk ((by rw [hg]; exact Nat.ne_of_gt (blk_lt (g := gb197) (o := .cells #[.slice A0_0 l0_0.length c0_0, .slice A0_1 l0_1.length c0_1, .slice A0_2 l0_2.length c0_2, .slice A0_3 l0_3.length c0_3, .int .i64 a0_4] 25 (0, 0)) (Bk BK197)) : gb199 ≠ gb197)); have n8_ := Aside0.mk ((by rw [hg]; exact Nat.ne_of_lt (blk_lt (g := gb198) (o := .cells #[.string a1_0, .slice A1_1 l1_1.length c1_1] 53 (0, 0)) (Bk BK198)) : gb198 ≠ gb199)); have n9_ := Aside0.mk ((by rw [hg]; exact Nat.ne_of_gt (blk_lt (g := gb198) (o := .cells #[.string a1_0, .slice A1_1 l1_1.length c1_1] 53 (0, 0)) (Bk BK198)) : gb199 ≠ gb198)); clear BK197; clear BK198; clear HB; have BK197 := n0_; have BK198 := n1_; have HB := n2_; have BK199 := n3_; have GW199 := n4_; have GE199 := n5_; have NB197_199 := n6_; have NB199_197 := n7_; have NB198_199 := n8_; have NB199_198 := n9_; clear n0_ n1_ n2_ n3_ n4_ n5_ n6_ n7_ n8_ n9_; clear hb hbox hg; have hnb31 := NB198_197.out; have hnc31 := NB197_198.out; have hnb32 := NB198_199.out; have hnc32 := NB199_198.out; obtain ⟨hcz33_0, hcz33_1, hfz33_0, hfz33_1⟩ := cells2 BK198; have hnb34 := NB199_197.out; have hnc34 := NB197_199.out; obtain ⟨hcz35_0, hcz35_1, hfz35_0, hfz35_1⟩ := cells2 BK199) | ((with_reducible refine gate_callee (f := 31) rfl ?_); refine goL (some 11) Tryd.func31 #[.slice A1_1 l1_1.length c1_1, .string a2_0] ?_; (with_reducible refine (slices_Contains_string_string.calls k _ _ l1_1 a2_0 false _ (Cs HR1_1) HC1_1.out A4.out).mono ?_); rintro e w' ⟨rfl, ⟨nd, rfl⟩⟩; refine ⟨_, rfl, ?_⟩))
 go_ret
 exact ⟨Re, Bw⟩

def policy_Attr.f (k : Nat) (l0_0 : List (S53)) (l0_1 : List ByteArray) (l0_2 : List ByteArray) (l0_3 : List ByteArray) (a0_4 : Int) (a1 : ByteArray) (a2_0 : ByteArray) (a2_1 : ByteArray) : Option (Bool) := (policy_rule.f k l0_0 l0_1 l0_2 l0_3 a0_4 a1).bind fun bt205 => (if bt205.2.2 = true then ((policy_Check.f k l0_0 l0_1 l0_2 l0_3 a0_4).bind fun t211 => (if t211 = 0 then ((policy_let.f k l0_0 l0_1 l0_2 l0_3 a0_4 bt205.1 bt205.2.1 a2_0 a2_1).bind fun t212 => (some t212)) else (some false))) else (some false))
theorem policy_Attr.mono : ∀ a0 a1 a2 a3 a4 a5 a6 a7 k, LeO (policy_Attr.f k a0 a1 a2 a3 a4 a5 a6 a7) (policy_Attr.f (k + 1) a0 a1 a2 a3 a4 a5 a6 a7) := by
  intro a0 a1 a2 a3 a4 a5 a6 a7 k
  unfold policy_Attr.f
  repeat' first
      | (with_reducible exact policy_Check.mono _ _ _ _ _ _)
      | (with_reducible exact policy_let.mono _ _ _ _ _ _ _ _ _ _)
      | (with_reducible exact policy_rule.mono _ _ _ _ _ _ _)
      | (with_reducible exact LeO.refl _)
      | (with_reducible exact LeO.none _)
      | (with_reducible refine LeO.ite ?_ ?_)
      | (with_reducible refine LeO.bind ?_ (fun _ => ?_))
      | exact policy_Check.mono _ _ _ _ _ _
      | exact policy_let.mono _ _ _ _ _ _ _ _ _ _
      | exact policy_rule.mono _ _ _ _ _ _ _
      | exact LeO.none _
      | refine LeO.ite ?_ ?_
      | refine LeO.bind ?_ (fun _ => ?_)
set_option maxHeartbeats 8000000 in
set_option maxRecDepth 100000 in
theorem policy_Attr.calls (k : Nat) (A0_0 : Option Addr) (c0_0 : Nat) (l0_0 : List (S53)) (A0_1 : Option Addr) (c0_1 : Nat) (l0_1 : List ByteArray) (A0_2 : Option Addr) (c0_2 : Nat) (l0_2 : List ByteArray) (A0_3 : Option Addr) (c0_3 : Nat) (l0_3 : List ByteArray) (a0_4 : Int) (a1 : ByteArray) (a2_0 : ByteArray) (a2_1 : ByteArray) (r : Bool) (w : World) (hr0_0 : Kd.C k53 w A0_0 l0_0.length l0_0) (hc0_0 : l0_0.length ≤ c0_0) (hr0_1 : Kd.C Kd.string w A0_1 l0_1.length l0_1) (hc0_1 : l0_1.length ≤ c0_1) (hr0_2 : Kd.C Kd.string w A0_2 l0_2.length l0_2) (hc0_2 : l0_2.length ≤ c0_2) (hr0_3 : Kd.C Kd.string w A0_3 l0_3.length l0_3) (hc0_3 : l0_3.length ≤ c0_3) (h : policy_Attr.f k l0_0 l0_1 l0_2 l0_3 a0_4 a1 a2_0 a2_1 = some r) :
  Calls Tryd.prog 18 #[.agg #[.slice A0_0 l0_0.length c0_0, .slice A0_1 l0_1.length c0_1, .slice A0_2 l0_2.length c0_2, .slice A0_3 l0_3.length c0_3, .int .i64 a0_4], .string a1, .agg #[.string a2_0, .string a2_1]] w fun e w' => e = .returned (.bool r) ∧ Below w.heap.size w w' := by
 have hu25 := Tryd.underlying25
 have hu35 := Tryd.underlying35
 have hu53 := Tryd.underlying53
 have HR0_0 := Aside0.mk hr0_0
 have HC0_0 := Aside0.mk hc0_0
 clear hr0_0 hc0_0
 have HR0_1 := Aside0.mk hr0_1
 have HC0_1 := Aside0.mk hc0_1
 clear hr0_1 hc0_1
 have HR0_2 := Aside0.mk hr0_2
 have HC0_2 := Aside0.mk hc0_2
 clear hr0_2 hc0_2
 have HR0_3 := Aside0.mk hr0_3
 have HC0_3 := Aside0.mk hc0_3
 clear hr0_3 hc0_3
 have HB := Aside0.mk (Below.refl w.heap.size w)
 have H := h
 clear h
 unfold policy_Attr.f at H
 replace H := Option.bind_eq_some_iff.mp H
 obtain ⟨⟨t205, t206, t209⟩, A40, H⟩ := H
 try dsimp -simprocs only at H
 have A4 := Aside0.mk A40
 clear A40
 by_cases c5 : t209 = true
 ·subst c5
  rw [if_pos rfl] at H
  replace H := Option.bind_eq_some_iff.mp H
  obtain ⟨t211, A60, H⟩ := H
  try dsimp -simprocs only at H
  have A6 := Aside0.mk A60
  clear A60
  by_cases c7 : t211 = 0
  ·rw [if_pos c7] at H
   have c7b0 : (t211 == 0) = true := beq_iff_eq.mpr c7
   have c7b1 : (t211 != 0) = false := bne_eq_false_iff_eq.mpr c7
   clear c7
   replace H := Option.bind_eq_some_iff.mp H
   obtain ⟨t212, A80, H⟩ := H
   replace H : (some t212) = some r := H
   have A8 := Aside0.mk A80
   clear A80
   obtain rfl := Option.some.inj H
   go_enter Tryd.func18, Tryd.ntmps18
   go_wp2_with (first | ((with_reducible refine gate_dst (N := 3) rfl ?_); refine box5 25 3 (cs := #[.slice A0_0 l0_0.length c0_0, .slice A0_1 l0_1.length c0_1, .slice A0_2 l0_2.length c0_2, .slice A0_3 l0_3.length c0_3, .int .i64 a0_4]) ?_; clear HB; intro gb203 w9 HB BK203 GE203; have GW203 := GE203) | ((with_reducible refine gate_dst (N := 5) rfl ?_); refine box_event ?hg (N := 5) ?hd (cs := #[.string a2_0, .string a2_1]) (t := 35) ?hr ?_; (case hd => rfl); (case hg => rfl); (case hr => first | (go_simp; done) | (go_simp; rfl)); intro gb204 hg w10 hbox hb; have n0_ := Bb BK203 hb; have n1_ := Bs hb; have n2_ := Aside0.mk (hbox); have n3_ := Aside0.mk (Gg hg); have n4_ := Aside0.mk (Gg hg); have n5_ := Aside0.mk ((by rw [hg]; exact Nat.ne_of_lt (blk_lt (g := gb203) (o := .cells #[.slice A0_0 l0_0.length c0_0, .slice A0_1 l0_1.length c0_1, .slice A0_2 l0_2.length c0_2, .slice A0_3 l0_3.length c0_3, .int .i64 a0_4] 25 (0, 0)) (Bk BK203)) : gb203 ≠ gb204)); have n6_ := Aside0.mk ((by rw [hg]; exact Nat.ne_of_gt (blk_lt (g := gb203) (o := .cells #[.slice A0_0 l0_0.length c0_0, .slice A0_1 l0_1.length c0_1, .slice A0_2 l0_2.length c0_2, .slice A0_3 l0_3.length c0_3, .int .i64 a0_4] 25 (0, 0)) (Bk BK203)) : gb204 ≠ gb203)); clear BK203; clear HB; have BK203 := n0_; have HB := n1_; have BK204 := n2_; have GW204 := n3_; have GE204 := n4_; have NB203_204 := n5_; have NB204_203 := n6_; clear n0_ n1_ n2_ n3_ n4_ n5_ n6_; clear hb hbox hg; have hnb11 := NB203_204.out; have hnc11 := NB204_203.out; obtain ⟨hcz12_0, hcz12_1, hcz12_2, hcz12_3, hcz12_4, hfz12_0, hfz12_1, hfz12_2, hfz12_3, hfz12_4⟩ := cells5 BK203) | ((with_reducible refine gate_callee (f := 40) rfl ?_); refine goL (some 12) Tryd.func40 #[.agg #[.slice A0_0 l0_0.length c0_0, .slice A0_1 l0_1.length c0_1, .slice A0_2 l0_2.length c0_2, .slice A0_3 l0_3.length c0_3, .int .i64 a0_4], .string a1] ?_; (with_reducible refine (policy_rule.calls k (fun k_ => k_ < w.heap.size) _ _ l0_0 _ _ l0_1 _ _ l0_2 _ _ l0_3 a0_4 a1 t205 t206 true _ ?side1 (Cs HR0_1) HC0_1.out (Cs HR0_2) HC0_2.out (Cs HR0_3) HC0_3.out A4.out).mono ?_); (case side1 => exact Kd.V_mk HC0_0.out (Kd.F_below (Kd.C_F k53_heap HR0_0.out) Bw)); rintro e w13 ⟨v207, rfl, ho0, hb⟩; refine ⟨_, rfl, ?_⟩; have n0_ := Aside0.mk (Kd.V_lower (Kd.V_mono (ok' := fun k_ => k_ ≠ gb203 ∧ k_ ≠ gb204) ho0 (fun k_ hk_ => ⟨Or.elim hk_ (fun hs_ => fun e_ => Nat.not_le.2 hs_ (by rw [e_]; exact GW203.out)) (fun hn_ => (Kd.freshB (g := gb203) (o := .cells #[.slice A0_0 l0_0.length c0_0, .slice A0_1 l0_1.length c0_1, .slice A0_2 l0_2.length c0_2, .slice A0_3 l0_3.length c0_3, .int .i64 a0_4] 25 (0, 0)) (Bk BK203) k_ hn_)), Or.elim hk_ (fun hs_ => fun e_ => Nat.not_le.2 hs_ (by rw [e_]; exact GW204.out)) (fun hn_ => (Kd.freshB (g := gb204) (o := .cells #[.string a2_0, .string a2_1] 35 (0, 0)) (Bk BK204) k_ hn_))⟩)) (below_size Bw)); have n1_ := Bb BK203 hb; have n2_ := Bb BK204 hb; have n3_ := Bs hb; clear BK203; clear BK204; clear HB; have HO208 := n0_; have BK203 := n1_; have BK204 := n2_; have HB := n3_; clear n0_ n1_ n2_ n3_; (try clear hb); (try clear hb2); (try clear hk); (try clear hi); (try clear ho0)) | ((with_reducible refine gate_dst (N := 7) rfl ?_); refine box_event ?hg (N := 7) ?hd (cs := #[.string (⟨#[]⟩ : ByteArray), .slice none 0 0]) (t := 53) ?hr ?_; (case hd => rfl); (case hg => rfl); (case hr => first | (go_simp; done) | (go_simp; rfl)); intro gb210 hg w14 hbox hb; have n0_ := Aside0.mk (Kd.V_below (Kd.V_elderB (by (with_reducible repeat (first | apply Kd.V_alloc | apply Kd.V_drewN | apply Kd.V_drew)); exact HO208.out) gb210 (Nat.le_of_eq hg.symm)) hb); have n1_ := Bb BK203 hb; have n2_ := Bb BK204 hb; have n3_ := Bs hb; have n4_ := Aside0.mk (hbox); have n5_ := Aside0.mk (Gg hg); have n6_ := Aside0.mk (Gg hg); have n7_ := Aside0.mk ((by rw [hg]; exact Nat.ne_of_lt (blk_lt (g := gb203) (o := .cells #[.slice A0_0 l0_0.length c0_0, .slice A0_1 l0_1.length c0_1, .slice A0_2 l0_2.length c0_2, .slice A0_3 l0_3.length c0_3, .int .i64 a0_4] 25 (0, 0)) (Bk BK203)) : gb203 ≠ gb210)); have n8_ := Aside0.mk ((by rw [hg]; exact Nat.ne_of_gt (blk_lt (g := gb203) (o := .cells #[.slice A0_0 l0_0.length c0_0, .slice A0_1 l0_1.length c0_1, .slice A0_2 l0_2.length c0_2, .slice A0_3 l0_3.length c0_3, .int .i64 a0_4] 25 (0, 0)) (Bk BK203)) : gb210 ≠ gb203)); have n9_ := Aside0.mk ((by rw [hg]; exact Nat.ne_of_lt (blk_lt (g := gb204) (o := .cells #[.string a2_0, .string a2_1] 35 (0, 0)) (Bk BK204)) : gb204 ≠ gb210)); have n10_ := Aside0.mk ((by rw [hg]; exact Nat.ne_of_gt (blk_lt (g := gb204) (o := .cells #[.string a2_0, .string a2_1] 35 (0, 0)) (Bk BK204)) : gb210 ≠ gb204)); clear HO208; clear BK203; clear BK204; clear HB; have HO208 := n0_; have BK203 := n1_; have BK204 := n2_; have HB := n3_; have BK210 := n4_; have GW210 := n5_; have GE210 := n6_; have NB203_210 := n7_; have NB210_203 := n8_; have NB204_210 := n9_; have NB210_204 := n10_; clear n0_ n1_ n2_ n3_ n4_ n5_ n6_ n7_ n8_ n9_ n10_; clear hb hbox hg; have hnb15 := NB210_203.out; have hnc15 := NB203_210.out; have hnb16 := NB210_204.out; have hnc16 := NB204_210.out; obtain ⟨hcz17_0, hcz17_1, hfz17_0, hfz17_1⟩ := cells2 BK210; obtain ⟨Ao18, co18, eo18⟩ := Kd.V_slice HO208.out; subst eo18; obtain ⟨hcz19_0, hcz19_1, hcz19_2, hcz19_3, hcz19_4, hfz19_0, hfz19_1, hfz19_2, hfz19_3, hfz19_4⟩ := cells5 BK203) | (go_at_call 11; (with_reducible refine (policy_Check.calls k _ _ l0_0 _ _ l0_1 _ _ l0_2 _ _ l0_3 a0_4 t211 _ ?side1 HC0_0.out ?side3 HC0_1.out ?side5 HC0_2.out ?side7 HC0_3.out A6.out).mono ?_); (case side1 => exact Kd.C_below HR0_0.out Bw); (case side3 => exact Kd.C_below HR0_1.out Bw); (case side5 => exact Kd.C_below HR0_2.out Bw); (case side7 => exact Kd.C_below HR0_3.out Bw); rintro e w20 ⟨rfl, hb⟩; have n0_ := Aside0.mk (Kd.V_below (by (with_reducible repeat (first | apply Kd.V_alloc | apply Kd.V_drewN | apply Kd.V_drew)); exact (Kd.V_mono (Kd.V_far (p := ⟨gb210, 1, none⟩) (Kd.V_far (p := ⟨gb210, 0, none⟩) (Kd.V_mono HO208.out (fun k_ hk => (⟨hk, hk.2⟩ : _ ∧ k_ ≠ gb210))) (fun _ hk => hk.2) (.string t205)) (fun _ hk => hk.2) (.slice Ao18 t206.length co18)) (fun _ h_ => h_.1))) hb); have n1_ := Aside0.mk (blk_below (g := gb203) (o := .cells #[.slice A0_0 l0_0.length c0_0, .slice A0_1 l0_1.length c0_1, .slice A0_2 l0_2.length c0_2, .slice A0_3 l0_3.length c0_3, .int .i64 a0_4] 25 (0, 0)) (by (with_reducible repeat (first | refine blk_drewN ?_ _ | refine blk_drew ?_ | refine blk_alloc ?_ _)); refine blk_far ?_ NB203_210.out _; (with_reducible repeat (first | refine blk_drewN ?_ _ | refine blk_drew ?_ | refine blk_alloc ?_ _)); refine blk_far ?_ NB203_210.out _; (with_reducible repeat (first | refine blk_drewN ?_ _ | refine blk_drew ?_ | refine blk_alloc ?_ _)); exact BK203.out) hb); have n2_ := Aside0.mk (blk_below (g := gb204) (o := .cells #[.string a2_0, .string a2_1] 35 (0, 0)) (by (with_reducible repeat (first | refine blk_drewN ?_ _ | refine blk_drew ?_ | refine blk_alloc ?_ _)); refine blk_far ?_ NB204_210.out _; (with_reducible repeat (first | refine blk_drewN ?_ _ | refine blk_drew ?_ | refine blk_alloc ?_ _)); refine blk_far ?_ NB204_210.out _; (with_reducible repeat (first | refine blk_drewN ?_ _ | refine blk_drew ?_ | refine blk_alloc ?_ _)); exact BK204.out) hb); have n3_ := Aside0.mk (blk_below (g := gb210) (o := .cells #[.string t205, .slice Ao18 t206.length co18] 53 (0, 0)) (by (with_reducible repeat (first | refine blk_drewN ?_ _ | refine blk_drew ?_ | refine blk_alloc ?_ _)); refine blk_put (cs := #[.string t205, .slice none 0 0]) ?_ 1 _ rfl; (with_reducible repeat (first | refine blk_drewN ?_ _ | refine blk_drew ?_ | refine blk_alloc ?_ _)); refine blk_put (cs := #[.string (⟨#[]⟩ : ByteArray), .slice none 0 0]) ?_ 0 _ rfl; (with_reducible repeat (first | refine blk_drewN ?_ _ | refine blk_drew ?_ | refine blk_alloc ?_ _)); exact BK210.out) hb); have n4_ := Bs hb; clear HO208; clear BK203; clear BK204; clear BK210; clear HB; have HO208 := n0_; have BK203 := n1_; have BK204 := n2_; have BK210 := n3_; have HB := n4_; clear n0_ n1_ n2_ n3_ n4_; (try clear hb); (try clear hb2); (try clear hk); (try clear hi); obtain ⟨hcz21_0, hcz21_1, hcz21_2, hcz21_3, hcz21_4, hfz21_0, hfz21_1, hfz21_2, hfz21_3, hfz21_4⟩ := cells5 BK203; obtain ⟨hcz22_0, hcz22_1, hfz22_0, hfz22_1⟩ := cells2 BK210; obtain ⟨hcz23_0, hcz23_1, hfz23_0, hfz23_1⟩ := cells2 BK204) | (go_at_call 42; (with_reducible refine (policy_let.calls k _ _ l0_0 _ _ l0_1 _ _ l0_2 _ _ l0_3 a0_4 t205 _ _ t206 a2_0 a2_1 t212 _ (Cs HR0_0) HC0_0.out (Cs HR0_1) HC0_1.out (Cs HR0_2) HC0_2.out (Cs HR0_3) HC0_3.out ?side9 ?side10 A8.out).mono ?_); (case side9 => repeat (first | exact (Kd.V_reads' HO208.out).2.2 | (with_reducible refine Kd.C_alloc ?_ _) | (with_reducible refine Kd.C_drewN ?_ _) | (with_reducible refine Kd.C_drew ?_))); (case side10 => exact (Kd.V_reads' HO208.out).2.1); rintro e w24 ⟨rfl, hb⟩; have n0_ := Aside0.mk (Kd.V_below (by (with_reducible repeat (first | apply Kd.V_alloc | apply Kd.V_drewN | apply Kd.V_drew)); exact HO208.out) hb); have n1_ := Bb BK203 hb; have n2_ := Bb BK204 hb; have n3_ := Bb BK210 hb; have n4_ := Bs hb; clear HO208; clear BK203; clear BK204; clear BK210; clear HB; have HO208 := n0_; have BK203 := n1_; have BK204 := n2_; have BK210 := n3_; have HB := n4_; clear n0_ n1_ n2_ n3_ n4_; (try clear hb); (try clear hb2); (try clear hk); (try clear hi)))
   go_ret
   exact ⟨Re, Bw⟩
  rw [if_neg c7] at H
  have c7b0 : (t211 == 0) = false := beq_eq_false_iff_ne.mpr c7
  have c7b1 : (t211 != 0) = true := bne_iff_ne.mpr c7
  obtain rfl := Option.some.inj H
  go_enter Tryd.func18, Tryd.ntmps18
  go_wp2_with (first | ((with_reducible refine gate_dst (N := 3) rfl ?_); refine box5 25 3 (cs := #[.slice A0_0 l0_0.length c0_0, .slice A0_1 l0_1.length c0_1, .slice A0_2 l0_2.length c0_2, .slice A0_3 l0_3.length c0_3, .int .i64 a0_4]) ?_; clear HB; intro gb203 w25 HB BK203 GE203; have GW203 := GE203) | ((with_reducible refine gate_dst (N := 5) rfl ?_); refine box_event ?hg (N := 5) ?hd (cs := #[.string a2_0, .string a2_1]) (t := 35) ?hr ?_; (case hd => rfl); (case hg => rfl); (case hr => first | (go_simp; done) | (go_simp; rfl)); intro gb204 hg w26 hbox hb; have n0_ := Bb BK203 hb; have n1_ := Bs hb; have n2_ := Aside0.mk (hbox); have n3_ := Aside0.mk (Gg hg); have n4_ := Aside0.mk (Gg hg); have n5_ := Aside0.mk ((by rw [hg]; exact Nat.ne_of_lt (blk_lt (g := gb203) (o := .cells #[.slice A0_0 l0_0.length c0_0, .slice A0_1 l0_1.length c0_1, .slice A0_2 l0_2.length c0_2, .slice A0_3 l0_3.length c0_3, .int .i64 a0_4] 25 (0, 0)) (Bk BK203)) : gb203 ≠ gb204)); have n6_ := Aside0.mk ((by rw [hg]; exact Nat.ne_of_gt (blk_lt (g := gb203) (o := .cells #[.slice A0_0 l0_0.length c0_0, .slice A0_1 l0_1.length c0_1, .slice A0_2 l0_2.length c0_2, .slice A0_3 l0_3.length c0_3, .int .i64 a0_4] 25 (0, 0)) (Bk BK203)) : gb204 ≠ gb203)); clear BK203; clear HB; have BK203 := n0_; have HB := n1_; have BK204 := n2_; have GW204 := n3_; have GE204 := n4_; have NB203_204 := n5_; have NB204_203 := n6_; clear n0_ n1_ n2_ n3_ n4_ n5_ n6_; clear hb hbox hg; have hnb27 := NB203_204.out; have hnc27 := NB204_203.out; obtain ⟨hcz28_0, hcz28_1, hcz28_2, hcz28_3, hcz28_4, hfz28_0, hfz28_1, hfz28_2, hfz28_3, hfz28_4⟩ := cells5 BK203) | ((with_reducible refine gate_callee (f := 40) rfl ?_); refine goL (some 12) Tryd.func40 #[.agg #[.slice A0_0 l0_0.length c0_0, .slice A0_1 l0_1.length c0_1, .slice A0_2 l0_2.length c0_2, .slice A0_3 l0_3.length c0_3, .int .i64 a0_4], .string a1] ?_; (with_reducible refine (policy_rule.calls k (fun k_ => k_ < w.heap.size) _ _ l0_0 _ _ l0_1 _ _ l0_2 _ _ l0_3 a0_4 a1 t205 t206 true _ ?side1 (Cs HR0_1) HC0_1.out (Cs HR0_2) HC0_2.out (Cs HR0_3) HC0_3.out A4.out).mono ?_); (case side1 => exact Kd.V_mk HC0_0.out (Kd.F_below (Kd.C_F k53_heap HR0_0.out) Bw)); rintro e w29 ⟨v207, rfl, ho0, hb⟩; refine ⟨_, rfl, ?_⟩; have n0_ := Aside0.mk (Kd.V_lower (Kd.V_mono (ok' := fun k_ => k_ ≠ gb203 ∧ k_ ≠ gb204) ho0 (fun k_ hk_ => ⟨Or.elim hk_ (fun hs_ => fun e_ => Nat.not_le.2 hs_ (by rw [e_]; exact GW203.out)) (fun hn_ => (Kd.freshB (g := gb203) (o := .cells #[.slice A0_0 l0_0.length c0_0, .slice A0_1 l0_1.length c0_1, .slice A0_2 l0_2.length c0_2, .slice A0_3 l0_3.length c0_3, .int .i64 a0_4] 25 (0, 0)) (Bk BK203) k_ hn_)), Or.elim hk_ (fun hs_ => fun e_ => Nat.not_le.2 hs_ (by rw [e_]; exact GW204.out)) (fun hn_ => (Kd.freshB (g := gb204) (o := .cells #[.string a2_0, .string a2_1] 35 (0, 0)) (Bk BK204) k_ hn_))⟩)) (below_size Bw)); have n1_ := Bb BK203 hb; have n2_ := Bb BK204 hb; have n3_ := Bs hb; clear BK203; clear BK204; clear HB; have HO208 := n0_; have BK203 := n1_; have BK204 := n2_; have HB := n3_; clear n0_ n1_ n2_ n3_; (try clear hb); (try clear hb2); (try clear hk); (try clear hi); (try clear ho0)) | ((with_reducible refine gate_dst (N := 7) rfl ?_); refine box_event ?hg (N := 7) ?hd (cs := #[.string (⟨#[]⟩ : ByteArray), .slice none 0 0]) (t := 53) ?hr ?_; (case hd => rfl); (case hg => rfl); (case hr => first | (go_simp; done) | (go_simp; rfl)); intro gb210 hg w30 hbox hb; have n0_ := Aside0.mk (Kd.V_below (Kd.V_elderB (by (with_reducible repeat (first | apply Kd.V_alloc | apply Kd.V_drewN | apply Kd.V_drew)); exact HO208.out) gb210 (Nat.le_of_eq hg.symm)) hb); have n1_ := Bb BK203 hb; have n2_ := Bb BK204 hb; have n3_ := Bs hb; have n4_ := Aside0.mk (hbox); have n5_ := Aside0.mk (Gg hg); have n6_ := Aside0.mk (Gg hg); have n7_ := Aside0.mk ((by rw [hg]; exact Nat.ne_of_lt (blk_lt (g := gb203) (o := .cells #[.slice A0_0 l0_0.length c0_0, .slice A0_1 l0_1.length c0_1, .slice A0_2 l0_2.length c0_2, .slice A0_3 l0_3.length c0_3, .int .i64 a0_4] 25 (0, 0)) (Bk BK203)) : gb203 ≠ gb210)); have n8_ := Aside0.mk ((by rw [hg]; exact Nat.ne_of_gt (blk_lt (g := gb203) (o := .cells #[.slice A0_0 l0_0.length c0_0, .slice A0_1 l0_1.length c0_1, .slice A0_2 l0_2.length c0_2, .slice A0_3 l0_3.length c0_3, .int .i64 a0_4] 25 (0, 0)) (Bk BK203)) : gb210 ≠ gb203)); have n9_ := Aside0.mk ((by rw [hg]; exact Nat.ne_of_lt (blk_lt (g := gb204) (o := .cells #[.string a2_0, .string a2_1] 35 (0, 0)) (Bk BK204)) : gb204 ≠ gb210)); have n10_ := Aside0.mk ((by rw [hg]; exact Nat.ne_of_gt (blk_lt (g := gb204) (o := .cells #[.string a2_0, .string a2_1] 35 (0, 0)) (Bk BK204)) : gb210 ≠ gb204)); clear HO208; clear BK203; clear BK204; clear HB; have HO208 := n0_; have BK203 := n1_; have BK204 := n2_; have HB := n3_; have BK210 := n4_; have GW210 := n5_; have GE210 := n6_; have NB203_210 := n7_; have NB210_203 := n8_; have NB204_210 := n9_; have NB210_204 := n10_; clear n0_ n1_ n2_ n3_ n4_ n5_ n6_ n7_ n8_ n9_ n10_; clear hb hbox hg; have hnb31 := NB210_203.out; have hnc31 := NB203_210.out; have hnb32 := NB210_204.out; have hnc32 := NB204_210.out; obtain ⟨hcz33_0, hcz33_1, hfz33_0, hfz33_1⟩ := cells2 BK210; obtain ⟨Ao34, co34, eo34⟩ := Kd.V_slice HO208.out; subst eo34; obtain ⟨hcz35_0, hcz35_1, hcz35_2, hcz35_3, hcz35_4, hfz35_0, hfz35_1, hfz35_2, hfz35_3, hfz35_4⟩ := cells5 BK203) | (go_at_call 11; (with_reducible refine (policy_Check.calls k _ _ l0_0 _ _ l0_1 _ _ l0_2 _ _ l0_3 a0_4 t211 _ ?side1 HC0_0.out ?side3 HC0_1.out ?side5 HC0_2.out ?side7 HC0_3.out A6.out).mono ?_); (case side1 => exact Kd.C_below HR0_0.out Bw); (case side3 => exact Kd.C_below HR0_1.out Bw); (case side5 => exact Kd.C_below HR0_2.out Bw); (case side7 => exact Kd.C_below HR0_3.out Bw); rintro e w36 ⟨rfl, hb⟩; have n0_ := Aside0.mk (Kd.V_below (by (with_reducible repeat (first | apply Kd.V_alloc | apply Kd.V_drewN | apply Kd.V_drew)); exact (Kd.V_mono (Kd.V_far (p := ⟨gb210, 1, none⟩) (Kd.V_far (p := ⟨gb210, 0, none⟩) (Kd.V_mono HO208.out (fun k_ hk => (⟨hk, hk.2⟩ : _ ∧ k_ ≠ gb210))) (fun _ hk => hk.2) (.string t205)) (fun _ hk => hk.2) (.slice Ao34 t206.length co34)) (fun _ h_ => h_.1))) hb); have n1_ := Aside0.mk (blk_below (g := gb203) (o := .cells #[.slice A0_0 l0_0.length c0_0, .slice A0_1 l0_1.length c0_1, .slice A0_2 l0_2.length c0_2, .slice A0_3 l0_3.length c0_3, .int .i64 a0_4] 25 (0, 0)) (by (with_reducible repeat (first | refine blk_drewN ?_ _ | refine blk_drew ?_ | refine blk_alloc ?_ _)); refine blk_far ?_ NB203_210.out _; (with_reducible repeat (first | refine blk_drewN ?_ _ | refine blk_drew ?_ | refine blk_alloc ?_ _)); refine blk_far ?_ NB203_210.out _; (with_reducible repeat (first | refine blk_drewN ?_ _ | refine blk_drew ?_ | refine blk_alloc ?_ _)); exact BK203.out) hb); have n2_ := Aside0.mk (blk_below (g := gb204) (o := .cells #[.string a2_0, .string a2_1] 35 (0, 0)) (by (with_reducible repeat (first | refine blk_drewN ?_ _ | refine blk_drew ?_ | refine blk_alloc ?_ _)); refine blk_far ?_ NB204_210.out _; (with_reducible repeat (first | refine blk_drewN ?_ _ | refine blk_drew ?_ | refine blk_alloc ?_ _)); refine blk_far ?_ NB204_210.out _; (with_reducible repeat (first | refine blk_drewN ?_ _ | refine blk_drew ?_ | refine blk_alloc ?_ _)); exact BK204.out) hb); have n3_ := Aside0.mk (blk_below (g := gb210) (o := .cells #[.string t205, .slice Ao34 t206.length co34] 53 (0, 0)) (by (with_reducible repeat (first | refine blk_drewN ?_ _ | refine blk_drew ?_ | refine blk_alloc ?_ _)); refine blk_put (cs := #[.string t205, .slice none 0 0]) ?_ 1 _ rfl; (with_reducible repeat (first | refine blk_drewN ?_ _ | refine blk_drew ?_ | refine blk_alloc ?_ _)); refine blk_put (cs := #[.string (⟨#[]⟩ : ByteArray), .slice none 0 0]) ?_ 0 _ rfl; (with_reducible repeat (first | refine blk_drewN ?_ _ | refine blk_drew ?_ | refine blk_alloc ?_ _)); exact BK210.out) hb); have n4_ := Bs hb; clear HO208; clear BK203; clear BK204; clear BK210; clear HB; have HO208 := n0_; have BK203 := n1_; have BK204 := n2_; have BK210 := n3_; have HB := n4_; clear n0_ n1_ n2_ n3_ n4_; (try clear hb); (try clear hb2); (try clear hk); (try clear hi)))
  go_ret
  exact ⟨Re, Bw⟩
 replace c5 := Bool.eq_false_iff.mpr c5
 subst c5
 rw [if_neg (show ¬ (false = true) by decide)] at H
 obtain rfl := Option.some.inj H
 go_enter Tryd.func18, Tryd.ntmps18
 go_wp2_with (first | ((with_reducible refine gate_dst (N := 3) rfl ?_); refine box5 25 3 (cs := #[.slice A0_0 l0_0.length c0_0, .slice A0_1 l0_1.length c0_1, .slice A0_2 l0_2.length c0_2, .slice A0_3 l0_3.length c0_3, .int .i64 a0_4]) ?_; clear HB; intro gb203 w37 HB BK203 GE203; have GW203 := GE203) | ((with_reducible refine gate_dst (N := 5) rfl ?_); refine box_event ?hg (N := 5) ?hd (cs := #[.string a2_0, .string a2_1]) (t := 35) ?hr ?_; (case hd => rfl); (case hg => rfl); (case hr => first | (go_simp; done) | (go_simp; rfl)); intro gb204 hg w38 hbox hb; have n0_ := Bb BK203 hb; have n1_ := Bs hb; have n2_ := Aside0.mk (hbox); have n3_ := Aside0.mk (Gg hg); have n4_ := Aside0.mk (Gg hg); have n5_ := Aside0.mk ((by rw [hg]; exact Nat.ne_of_lt (blk_lt (g := gb203) (o := .cells #[.slice A0_0 l0_0.length c0_0, .slice A0_1 l0_1.length c0_1, .slice A0_2 l0_2.length c0_2, .slice A0_3 l0_3.length c0_3, .int .i64 a0_4] 25 (0, 0)) (Bk BK203)) : gb203 ≠ gb204)); have n6_ := Aside0.mk ((by rw [hg]; exact Nat.ne_of_gt (blk_lt (g := gb203) (o := .cells #[.slice A0_0 l0_0.length c0_0, .slice A0_1 l0_1.length c0_1, .slice A0_2 l0_2.length c0_2, .slice A0_3 l0_3.length c0_3, .int .i64 a0_4] 25 (0, 0)) (Bk BK203)) : gb204 ≠ gb203)); clear BK203; clear HB; have BK203 := n0_; have HB := n1_; have BK204 := n2_; have GW204 := n3_; have GE204 := n4_; have NB203_204 := n5_; have NB204_203 := n6_; clear n0_ n1_ n2_ n3_ n4_ n5_ n6_; clear hb hbox hg; have hnb39 := NB203_204.out; have hnc39 := NB204_203.out; obtain ⟨hcz40_0, hcz40_1, hcz40_2, hcz40_3, hcz40_4, hfz40_0, hfz40_1, hfz40_2, hfz40_3, hfz40_4⟩ := cells5 BK203) | ((with_reducible refine gate_callee (f := 40) rfl ?_); refine goL (some 12) Tryd.func40 #[.agg #[.slice A0_0 l0_0.length c0_0, .slice A0_1 l0_1.length c0_1, .slice A0_2 l0_2.length c0_2, .slice A0_3 l0_3.length c0_3, .int .i64 a0_4], .string a1] ?_; (with_reducible refine (policy_rule.calls k (fun k_ => k_ < w.heap.size) _ _ l0_0 _ _ l0_1 _ _ l0_2 _ _ l0_3 a0_4 a1 t205 t206 false _ ?side1 (Cs HR0_1) HC0_1.out (Cs HR0_2) HC0_2.out (Cs HR0_3) HC0_3.out A4.out).mono ?_); (case side1 => exact Kd.V_mk HC0_0.out (Kd.F_below (Kd.C_F k53_heap HR0_0.out) Bw)); rintro e w41 ⟨v207, rfl, ho0, hb⟩; refine ⟨_, rfl, ?_⟩; have n0_ := Aside0.mk (Kd.V_lower (Kd.V_mono (ok' := fun k_ => k_ ≠ gb203 ∧ k_ ≠ gb204) ho0 (fun k_ hk_ => ⟨Or.elim hk_ (fun hs_ => fun e_ => Nat.not_le.2 hs_ (by rw [e_]; exact GW203.out)) (fun hn_ => (Kd.freshB (g := gb203) (o := .cells #[.slice A0_0 l0_0.length c0_0, .slice A0_1 l0_1.length c0_1, .slice A0_2 l0_2.length c0_2, .slice A0_3 l0_3.length c0_3, .int .i64 a0_4] 25 (0, 0)) (Bk BK203) k_ hn_)), Or.elim hk_ (fun hs_ => fun e_ => Nat.not_le.2 hs_ (by rw [e_]; exact GW204.out)) (fun hn_ => (Kd.freshB (g := gb204) (o := .cells #[.string a2_0, .string a2_1] 35 (0, 0)) (Bk BK204) k_ hn_))⟩)) (below_size Bw)); have n1_ := Bb BK203 hb; have n2_ := Bb BK204 hb; have n3_ := Bs hb; clear BK203; clear BK204; clear HB; have HO208 := n0_; have BK203 := n1_; have BK204 := n2_; have HB := n3_; clear n0_ n1_ n2_ n3_; (try clear hb); (try clear hb2); (try clear hk); (try clear hi); (try clear ho0)) | ((with_reducible refine gate_dst (N := 7) rfl ?_); refine box_event ?hg (N := 7) ?hd (cs := #[.string (⟨#[]⟩ : ByteArray), .slice none 0 0]) (t := 53) ?hr ?_; (case hd => rfl); (case hg => rfl); (case hr => first | (go_simp; done) | (go_simp; rfl)); intro gb210 hg w42 hbox hb; have n0_ := Aside0.mk (Kd.V_below (Kd.V_elderB (by (with_reducible repeat (first | apply Kd.V_alloc | apply Kd.V_drewN | apply Kd.V_drew)); exact HO208.out) gb210 (Nat.le_of_eq hg.symm)) hb); have n1_ := Bb BK203 hb; have n2_ := Bb BK204 hb; have n3_ := Bs hb; have n4_ := Aside0.mk (hbox); have n5_ := Aside0.mk (Gg hg); have n6_ := Aside0.mk (Gg hg); have n7_ := Aside0.mk ((by rw [hg]; exact Nat.ne_of_lt (blk_lt (g := gb203) (o := .cells #[.slice A0_0 l0_0.length c0_0, .slice A0_1 l0_1.length c0_1, .slice A0_2 l0_2.length c0_2, .slice A0_3 l0_3.length c0_3, .int .i64 a0_4] 25 (0, 0)) (Bk BK203)) : gb203 ≠ gb210)); have n8_ := Aside0.mk ((by rw [hg]; exact Nat.ne_of_gt (blk_lt (g := gb203) (o := .cells #[.slice A0_0 l0_0.length c0_0, .slice A0_1 l0_1.length c0_1, .slice A0_2 l0_2.length c0_2, .slice A0_3 l0_3.length c0_3, .int .i64 a0_4] 25 (0, 0)) (Bk BK203)) : gb210 ≠ gb203)); have n9_ := Aside0.mk ((by rw [hg]; exact Nat.ne_of_lt (blk_lt (g := gb204) (o := .cells #[.string a2_0, .string a2_1] 35 (0, 0)) (Bk BK204)) : gb204 ≠ gb210)); have n10_ := Aside0.mk ((by rw [hg]; exact Nat.ne_of_gt (blk_lt (g := gb204) (o := .cells #[.string a2_0, .string a2_1] 35 (0, 0)) (Bk BK204)) : gb210 ≠ gb204)); clear HO208; clear BK203; clear BK204; clear HB; have HO208 := n0_; have BK203 := n1_; have BK204 := n2_; have HB := n3_; have BK210 := n4_; have GW210 := n5_; have GE210 := n6_; have NB203_210 := n7_; have NB210_203 := n8_; have NB204_210 := n9_; have NB210_204 := n10_; clear n0_ n1_ n2_ n3_ n4_ n5_ n6_ n7_ n8_ n9_ n10_; clear hb hbox hg; have hnb43 := NB210_203.out; have hnc43 := NB203_210.out; have hnb44 := NB210_204.out; have hnc44 := NB204_210.out; obtain ⟨hcz45_0, hcz45_1, hfz45_0, hfz45_1⟩ := cells2 BK210; obtain ⟨Ao46, co46, eo46⟩ := Kd.V_slice HO208.out; subst eo46))
 go_ret
 exact ⟨Re, Bw⟩

def policy_nodes.f (_l0_0 : List S53) (_l0_1 : List ByteArray) (_l0_2 : List ByteArray) (_l0_3 : List ByteArray) (_a0_4 : Int) (l1 : List S49) (_a2 : Int) : Option Bool := match l1 with
  | [] => some true
  | _ :: _ => none
set_option maxHeartbeats 8000000 in
set_option maxRecDepth 100000 in
theorem policy_nodes.calls (A0_0 : Option Addr) (c0_0 : Nat) (l0_0 : List (S53)) (A0_1 : Option Addr) (c0_1 : Nat) (l0_1 : List ByteArray) (A0_2 : Option Addr) (c0_2 : Nat) (l0_2 : List ByteArray) (A0_3 : Option Addr) (c0_3 : Nat) (l0_3 : List ByteArray) (a0_4 : Int) (A1 : Option Addr) (c1 : Nat) (l1 : List (S49)) (a2 : Int) (r : Bool) (w : World) (hr0_0 : Kd.C k53 w A0_0 l0_0.length l0_0) (hc0_0 : l0_0.length ≤ c0_0) (hr0_1 : Kd.C Kd.string w A0_1 l0_1.length l0_1) (hc0_1 : l0_1.length ≤ c0_1) (hr0_2 : Kd.C Kd.string w A0_2 l0_2.length l0_2) (hc0_2 : l0_2.length ≤ c0_2) (hr0_3 : Kd.C Kd.string w A0_3 l0_3.length l0_3) (hc0_3 : l0_3.length ≤ c0_3) (hr1 : Kd.C k49 w A1 l1.length l1) (hc1 : l1.length ≤ c1) (h : policy_nodes.f l0_0 l0_1 l0_2 l0_3 a0_4 l1 a2 = some r) :
    Calls Tryd.prog 44 #[.agg #[.slice A0_0 l0_0.length c0_0, .slice A0_1 l0_1.length c0_1, .slice A0_2 l0_2.length c0_2, .slice A0_3 l0_3.length c0_3, .int .i64 a0_4], .slice A1 l1.length c1, .int .i64 a2] w fun e w' => e = .returned (.bool r) ∧ Below w.heap.size w w' := by
  cases l1 with
  | cons _ _ => exact absurd h (by simp [policy_nodes.f])
  | nil =>
  obtain rfl := Option.some.inj h
  clear h
  have HB := Aside0.mk (Below.refl w.heap.size w)
  clear hr0_0 hr0_1 hr0_2 hr0_3 hr1 hc0_0 hc0_1 hc0_2 hc0_3 hc1
  have hlen : ((([] : List S49).length : Nat) : Int) = 0 := rfl
  go_enter Tryd.func44, Tryd.ntmps44
  go_wp2_with (first | ((with_reducible refine gate_dst (N := 3) rfl ?_); refine box5 25 3 (cs := #[.slice A0_0 l0_0.length c0_0, .slice A0_1 l0_1.length c0_1, .slice A0_2 l0_2.length c0_2, .slice A0_3 l0_3.length c0_3, .int .i64 a0_4]) ?_; clear HB; intro gb264 w4 HB BK264 GE264; have GW264 := GE264))
  go_loopg [11] 1 (fun kq v11 w' => v11 = .int .i64 0 ∧ Aside0 (kq ≤ 1) ∧ Aside0 (w'.heap[gb264]? = some (.cells #[(.slice A0_0 l0_0.length c0_0), (.slice A0_1 l0_1.length c0_1), (.slice A0_2 l0_2.length c0_2), (.slice A0_3 l0_3.length c0_3), .int .i64 a0_4] 25 (0, 0))) ∧ Aside0 (Below w.heap.size w w'))
  case atStart => exact ⟨Rs, ⟨Nat.le_refl _⟩, ⟨(Bk BK264)⟩, ⟨Bw⟩⟩
  case round =>
    obtain ⟨rfl, HK1, BK264, HB⟩ := hrel
    go_wp2
    go_ret
    exact ⟨Re, Bw⟩


noncomputable def policy_Allowed.f (k : Nat) (l0_0 : List (S53)) (l0_1 : List ByteArray) (l0_2 : List ByteArray) (l0_3 : List ByteArray) (a0_4 : Int) (l1 : List (S49)) : Option (Bool) := (policy_Check.f k l0_0 l0_1 l0_2 l0_3 a0_4).bind fun t214 => (if t214 = 0 then ((policy_nodes.f l0_0 l0_1 l0_2 l0_3 a0_4 l1 1).bind fun t215 => (some t215)) else (some false))
theorem policy_Allowed.mono : ∀ a0 a1 a2 a3 a4 a5 k, LeO (policy_Allowed.f k a0 a1 a2 a3 a4 a5) (policy_Allowed.f (k + 1) a0 a1 a2 a3 a4 a5) := by
  intro a0 a1 a2 a3 a4 a5 k
  unfold policy_Allowed.f
  repeat' first
      | (with_reducible exact policy_Check.mono _ _ _ _ _ _)
      | (with_reducible exact LeO.refl _)
      | (with_reducible exact LeO.none _)
      | (with_reducible refine LeO.ite ?_ ?_)
      | (with_reducible refine LeO.bind ?_ (fun _ => ?_))
      | exact policy_Check.mono _ _ _ _ _ _
      | exact LeO.none _
      | refine LeO.ite ?_ ?_
      | refine LeO.bind ?_ (fun _ => ?_)
set_option maxHeartbeats 8000000 in
set_option maxRecDepth 100000 in
theorem policy_Allowed.calls (k : Nat) (A0_0 : Option Addr) (c0_0 : Nat) (l0_0 : List (S53)) (A0_1 : Option Addr) (c0_1 : Nat) (l0_1 : List ByteArray) (A0_2 : Option Addr) (c0_2 : Nat) (l0_2 : List ByteArray) (A0_3 : Option Addr) (c0_3 : Nat) (l0_3 : List ByteArray) (a0_4 : Int) (A1 : Option Addr) (c1 : Nat) (l1 : List (S49)) (r : Bool) (w : World) (hr0_0 : Kd.C k53 w A0_0 l0_0.length l0_0) (hc0_0 : l0_0.length ≤ c0_0) (hr0_1 : Kd.C Kd.string w A0_1 l0_1.length l0_1) (hc0_1 : l0_1.length ≤ c0_1) (hr0_2 : Kd.C Kd.string w A0_2 l0_2.length l0_2) (hc0_2 : l0_2.length ≤ c0_2) (hr0_3 : Kd.C Kd.string w A0_3 l0_3.length l0_3) (hc0_3 : l0_3.length ≤ c0_3) (hr1 : Kd.C k49 w A1 l1.length l1) (hc1 : l1.length ≤ c1) (h : policy_Allowed.f k l0_0 l0_1 l0_2 l0_3 a0_4 l1 = some r) :
  Calls Tryd.prog 21 #[.agg #[.slice A0_0 l0_0.length c0_0, .slice A0_1 l0_1.length c0_1, .slice A0_2 l0_2.length c0_2, .slice A0_3 l0_3.length c0_3, .int .i64 a0_4], .slice A1 l1.length c1] w fun e w' => e = .returned (.bool r) ∧ Below w.heap.size w w' := by
 have hu25 := Tryd.underlying25
 have HR0_0 := Aside0.mk hr0_0
 have HC0_0 := Aside0.mk hc0_0
 clear hr0_0 hc0_0
 have HR0_1 := Aside0.mk hr0_1
 have HC0_1 := Aside0.mk hc0_1
 clear hr0_1 hc0_1
 have HR0_2 := Aside0.mk hr0_2
 have HC0_2 := Aside0.mk hc0_2
 clear hr0_2 hc0_2
 have HR0_3 := Aside0.mk hr0_3
 have HC0_3 := Aside0.mk hc0_3
 clear hr0_3 hc0_3
 have HR1 := Aside0.mk hr1
 have HC1 := Aside0.mk hc1
 clear hr1 hc1
 have HB := Aside0.mk (Below.refl w.heap.size w)
 have H := h
 clear h
 unfold policy_Allowed.f at H
 replace H := Option.bind_eq_some_iff.mp H
 obtain ⟨t214, A30, H⟩ := H
 try dsimp -simprocs only at H
 have A3 := Aside0.mk A30
 clear A30
 by_cases c4 : t214 = 0
 ·rw [if_pos c4] at H
  have c4b0 : (t214 == 0) = true := beq_iff_eq.mpr c4
  have c4b1 : (t214 != 0) = false := bne_eq_false_iff_eq.mpr c4
  clear c4
  replace H := Option.bind_eq_some_iff.mp H
  obtain ⟨t215, A50, H⟩ := H
  replace H : (some t215) = some r := H
  have A5 := Aside0.mk A50
  clear A50
  obtain rfl := Option.some.inj H
  go_enter Tryd.func21, Tryd.ntmps21
  go_wp2_with (first | ((with_reducible refine gate_dst (N := 2) rfl ?_); refine box5 25 2 (cs := #[.slice A0_0 l0_0.length c0_0, .slice A0_1 l0_1.length c0_1, .slice A0_2 l0_2.length c0_2, .slice A0_3 l0_3.length c0_3, .int .i64 a0_4]) ?_; clear HB; intro gb213 w6 HB BK213 GE213; obtain ⟨hcz7_0, hcz7_1, hcz7_2, hcz7_3, hcz7_4, hfz7_0, hfz7_1, hfz7_2, hfz7_3, hfz7_4⟩ := cells5 BK213) | ((with_reducible refine gate_callee (f := 11) rfl ?_); refine goL (some 6) Tryd.func11 #[.agg #[.slice A0_0 l0_0.length c0_0, .slice A0_1 l0_1.length c0_1, .slice A0_2 l0_2.length c0_2, .slice A0_3 l0_3.length c0_3, .int .i64 a0_4]] ?_; (with_reducible refine (policy_Check.calls k _ _ l0_0 _ _ l0_1 _ _ l0_2 _ _ l0_3 a0_4 t214 _ (Cs HR0_0) HC0_0.out (Cs HR0_1) HC0_1.out (Cs HR0_2) HC0_2.out (Cs HR0_3) HC0_3.out A3.out).mono ?_); rintro e w8 ⟨rfl, hb⟩; refine ⟨_, rfl, ?_⟩; replace BK213 := Bb BK213 hb; replace HB := Bs hb; clear hb; obtain ⟨hcz9_0, hcz9_1, hcz9_2, hcz9_3, hcz9_4, hfz9_0, hfz9_1, hfz9_2, hfz9_3, hfz9_4⟩ := cells5 BK213) | (go_at_call 44; (with_reducible refine (policy_nodes.calls _ _ l0_0 _ _ l0_1 _ _ l0_2 _ _ l0_3 a0_4 _ _ l1 1 t215 _ (Cs HR0_0) HC0_0.out (Cs HR0_1) HC0_1.out (Cs HR0_2) HC0_2.out (Cs HR0_3) HC0_3.out (Cs HR1) HC1.out A5.out).mono ?_); rintro e w10 ⟨rfl, hb⟩; replace BK213 := Bb BK213 hb; replace HB := Bs hb; clear hb))
  go_ret
  exact ⟨Re, Bw⟩
 rw [if_neg c4] at H
 have c4b0 : (t214 == 0) = false := beq_eq_false_iff_ne.mpr c4
 have c4b1 : (t214 != 0) = true := bne_iff_ne.mpr c4
 obtain rfl := Option.some.inj H
 go_enter Tryd.func21, Tryd.ntmps21
 go_wp2_with (first | ((with_reducible refine gate_dst (N := 2) rfl ?_); refine box5 25 2 (cs := #[.slice A0_0 l0_0.length c0_0, .slice A0_1 l0_1.length c0_1, .slice A0_2 l0_2.length c0_2, .slice A0_3 l0_3.length c0_3, .int .i64 a0_4]) ?_; clear HB; intro gb213 w11 HB BK213 GE213; obtain ⟨hcz12_0, hcz12_1, hcz12_2, hcz12_3, hcz12_4, hfz12_0, hfz12_1, hfz12_2, hfz12_3, hfz12_4⟩ := cells5 BK213) | ((with_reducible refine gate_callee (f := 11) rfl ?_); refine goL (some 6) Tryd.func11 #[.agg #[.slice A0_0 l0_0.length c0_0, .slice A0_1 l0_1.length c0_1, .slice A0_2 l0_2.length c0_2, .slice A0_3 l0_3.length c0_3, .int .i64 a0_4]] ?_; (with_reducible refine (policy_Check.calls k _ _ l0_0 _ _ l0_1 _ _ l0_2 _ _ l0_3 a0_4 t214 _ (Cs HR0_0) HC0_0.out (Cs HR0_1) HC0_1.out (Cs HR0_2) HC0_2.out (Cs HR0_3) HC0_3.out A3.out).mono ?_); rintro e w13 ⟨rfl, hb⟩; refine ⟨_, rfl, ?_⟩; replace BK213 := Bb BK213 hb; replace HB := Bs hb; clear hb))
 go_ret
 exact ⟨Re, Bw⟩

noncomputable def marginalialaw11_alive0.f (k : Nat)  : Option (Bool) := (policy_Parse.f k (⟨#[100, 101, 101, 112, 32, 51, 10, 101, 108, 101, 109, 101, 110, 116, 32, 98, 10, 101, 108, 101, 109, 101, 110, 116, 32, 97, 32, 104, 114, 101, 102, 10, 108, 105, 110, 107, 32, 104, 114, 101, 102, 10, 115, 99, 104, 101, 109, 101, 32, 104, 116, 116, 112, 115, 10]⟩ : ByteArray)).bind fun bt267 => ((policy_Parse.f k (⟨#[100, 101, 101, 112, 32, 51, 10, 10, 100, 101, 101, 112, 32, 48, 51]⟩ : ByteArray)).bind fun bt283 => (if bt267.2.2.2.2.2.1 = 0 then (if bt267.2.2.2.2.2.2 = 0 then (if bt283.2.2.2.2.2.1 = 3 then (if bt283.2.2.2.2.2.2 = 7 then ((policy_Element.f k bt267.1 bt267.2.1 bt267.2.2.1 bt267.2.2.2.1 bt267.2.2.2.2.1 (⟨#[98]⟩ : ByteArray)).bind fun t299 => (if t299 = true then ((policy_Element.f k bt267.1 bt267.2.1 bt267.2.2.1 bt267.2.2.2.1 bt267.2.2.2.2.1 (⟨#[105]⟩ : ByteArray)).bind fun t300 => (if t300 = true then (some false) else ((policy_Attr.f k bt267.1 bt267.2.1 bt267.2.2.1 bt267.2.2.2.1 bt267.2.2.2.2.1 (⟨#[97]⟩ : ByteArray) (⟨#[104, 114, 101, 102]⟩ : ByteArray) (⟨#[47, 120]⟩ : ByteArray)).bind fun t301 => (if t301 = true then ((policy_Attr.f k bt267.1 bt267.2.1 bt267.2.2.1 bt267.2.2.2.1 bt267.2.2.2.2.1 (⟨#[97]⟩ : ByteArray) (⟨#[104, 114, 101, 102]⟩ : ByteArray) (⟨#[104, 116, 116, 112, 58, 120]⟩ : ByteArray)).bind fun t302 => (if t302 = true then (some false) else ((policy_Check.f k bt267.1 bt267.2.1 bt267.2.2.1 bt267.2.2.2.1 bt267.2.2.2.2.1).bind fun t303 => (if t303 = 0 then ((policy_Allowed.f k bt267.1 bt267.2.1 bt267.2.2.1 bt267.2.2.2.1 bt267.2.2.2.2.1 ([] : List (S49))).bind fun t304 => (some t304)) else (some false))))) else (some false))))) else (some false))) else (some false)) else (some false)) else (some false)) else (some false)))
theorem marginalialaw11_alive0.mono : ∀ k, LeO (marginalialaw11_alive0.f k ) (marginalialaw11_alive0.f (k + 1) ) := by
  intro  k
  unfold marginalialaw11_alive0.f
  repeat' first
      | (with_reducible exact policy_Allowed.mono _ _ _ _ _ _ _)
      | (with_reducible exact policy_Attr.mono _ _ _ _ _ _ _ _ _)
      | (with_reducible exact policy_Check.mono _ _ _ _ _ _)
      | (with_reducible exact policy_Element.mono _ _ _ _ _ _ _)
      | (with_reducible exact policy_Parse.mono _ _)
      | (with_reducible exact LeO.refl _)
      | (with_reducible exact LeO.none _)
      | (with_reducible refine LeO.ite ?_ ?_)
      | (with_reducible refine LeO.bind ?_ (fun _ => ?_))
      | exact policy_Allowed.mono _ _ _ _ _ _ _
      | exact policy_Attr.mono _ _ _ _ _ _ _ _ _
      | exact policy_Check.mono _ _ _ _ _ _
      | exact policy_Element.mono _ _ _ _ _ _ _
      | exact policy_Parse.mono _ _
      | exact LeO.none _
      | refine LeO.ite ?_ ?_
      | refine LeO.bind ?_ (fun _ => ?_)
set_option maxHeartbeats 8000000 in
set_option maxRecDepth 100000 in
theorem marginalialaw11_alive0.calls (k : Nat)  (w : World) (m_ : Int) (hm_ : w.cell? ⟨0, 0, none⟩ = some (.int .i64 m_)) (h : marginalialaw11_alive0.f k  = some true) :
  Calls Tryd.prog 10 #[] w fun e w' => e = .returned (.bool true) ∧ Below w.heap.size w w' := by
 have HM := Aside0.mk hm_
 clear hm_
 have hu25 := Tryd.underlying25
 have hu35 := Tryd.underlying35
 have HB := Aside0.mk (Below.refl w.heap.size w)
 have H : ((policy_Parse.f k (⟨#[100, 101, 101, 112, 32, 51, 10, 101, 108, 101, 109, 101, 110, 116, 32, 98, 10, 101, 108, 101, 109, 101, 110, 116, 32, 97, 32, 104, 114, 101, 102, 10, 108, 105, 110, 107, 32, 104, 114, 101, 102, 10, 115, 99, 104, 101, 109, 101, 32, 104, 116, 116, 112, 115, 10]⟩ : ByteArray)).bind fun bt267 => ((policy_Parse.f k (⟨#[100, 101, 101, 112, 32, 51, 10, 10, 100, 101, 101, 112, 32, 48, 51]⟩ : ByteArray)).bind fun bt283 => (if bt267.2.2.2.2.2.1 = 0 then (if bt267.2.2.2.2.2.2 = 0 then (if bt283.2.2.2.2.2.1 = 3 then (if bt283.2.2.2.2.2.2 = 7 then ((policy_Element.f k bt267.1 bt267.2.1 bt267.2.2.1 bt267.2.2.2.1 bt267.2.2.2.2.1 (⟨#[98]⟩ : ByteArray)).bind fun t299 => (if t299 = true then ((policy_Element.f k bt267.1 bt267.2.1 bt267.2.2.1 bt267.2.2.2.1 bt267.2.2.2.2.1 (⟨#[105]⟩ : ByteArray)).bind fun t300 => (if t300 = true then (some false) else ((policy_Attr.f k bt267.1 bt267.2.1 bt267.2.2.1 bt267.2.2.2.1 bt267.2.2.2.2.1 (⟨#[97]⟩ : ByteArray) (⟨#[104, 114, 101, 102]⟩ : ByteArray) (⟨#[47, 120]⟩ : ByteArray)).bind fun t301 => (if t301 = true then ((policy_Attr.f k bt267.1 bt267.2.1 bt267.2.2.1 bt267.2.2.2.1 bt267.2.2.2.2.1 (⟨#[97]⟩ : ByteArray) (⟨#[104, 114, 101, 102]⟩ : ByteArray) (⟨#[104, 116, 116, 112, 58, 120]⟩ : ByteArray)).bind fun t302 => (if t302 = true then (some false) else ((policy_Check.f k bt267.1 bt267.2.1 bt267.2.2.1 bt267.2.2.2.1 bt267.2.2.2.2.1).bind fun t303 => (if t303 = 0 then ((policy_Allowed.f k bt267.1 bt267.2.1 bt267.2.2.1 bt267.2.2.2.1 bt267.2.2.2.2.1 ([] : List (S49))).bind fun t304 => (some t304)) else (some false))))) else (some false))))) else (some false))) else (some false)) else (some false)) else (some false)) else (some false)))) = some true := h
 clear h
 replace H := Option.bind_eq_some_iff.mp H
 obtain ⟨⟨t267, t270, t273, t276, t279, t280, t281⟩, A10, H⟩ := H
 replace H : ((policy_Parse.f k (⟨#[100, 101, 101, 112, 32, 51, 10, 10, 100, 101, 101, 112, 32, 48, 51]⟩ : ByteArray)).bind fun bt283 => (if t280 = 0 then (if t281 = 0 then (if bt283.2.2.2.2.2.1 = 3 then (if bt283.2.2.2.2.2.2 = 7 then ((policy_Element.f k t267 t270 t273 t276 t279 (⟨#[98]⟩ : ByteArray)).bind fun t299 => (if t299 = true then ((policy_Element.f k t267 t270 t273 t276 t279 (⟨#[105]⟩ : ByteArray)).bind fun t300 => (if t300 = true then (some false) else ((policy_Attr.f k t267 t270 t273 t276 t279 (⟨#[97]⟩ : ByteArray) (⟨#[104, 114, 101, 102]⟩ : ByteArray) (⟨#[47, 120]⟩ : ByteArray)).bind fun t301 => (if t301 = true then ((policy_Attr.f k t267 t270 t273 t276 t279 (⟨#[97]⟩ : ByteArray) (⟨#[104, 114, 101, 102]⟩ : ByteArray) (⟨#[104, 116, 116, 112, 58, 120]⟩ : ByteArray)).bind fun t302 => (if t302 = true then (some false) else ((policy_Check.f k t267 t270 t273 t276 t279).bind fun t303 => (if t303 = 0 then ((policy_Allowed.f k t267 t270 t273 t276 t279 ([] : List (S49))).bind fun t304 => (some t304)) else (some false))))) else (some false))))) else (some false))) else (some false)) else (some false)) else (some false)) else (some false))) = some true := H
 have A1 := Aside0.mk A10
 clear A10
 replace H := Option.bind_eq_some_iff.mp H
 obtain ⟨⟨t283, t286, t289, t292, t295, t296, t297⟩, A20, H⟩ := H
 replace H : (if t280 = 0 then (if t281 = 0 then (if t296 = 3 then (if t297 = 7 then ((policy_Element.f k t267 t270 t273 t276 t279 (⟨#[98]⟩ : ByteArray)).bind fun t299 => (if t299 = true then ((policy_Element.f k t267 t270 t273 t276 t279 (⟨#[105]⟩ : ByteArray)).bind fun t300 => (if t300 = true then (some false) else ((policy_Attr.f k t267 t270 t273 t276 t279 (⟨#[97]⟩ : ByteArray) (⟨#[104, 114, 101, 102]⟩ : ByteArray) (⟨#[47, 120]⟩ : ByteArray)).bind fun t301 => (if t301 = true then ((policy_Attr.f k t267 t270 t273 t276 t279 (⟨#[97]⟩ : ByteArray) (⟨#[104, 114, 101, 102]⟩ : ByteArray) (⟨#[104, 116, 116, 112, 58, 120]⟩ : ByteArray)).bind fun t302 => (if t302 = true then (some false) else ((policy_Check.f k t267 t270 t273 t276 t279).bind fun t303 => (if t303 = 0 then ((policy_Allowed.f k t267 t270 t273 t276 t279 ([] : List (S49))).bind fun t304 => (some t304)) else (some false))))) else (some false))))) else (some false))) else (some false)) else (some false)) else (some false)) else (some false)) = some true := H
 have A2 := Aside0.mk A20
 clear A20
 by_cases c3 : t280 = 0
 ·rw [if_pos c3] at H
  have c3b0 : (t280 == 0) = true := beq_iff_eq.mpr c3
  have c3b1 : (t280 != 0) = false := bne_eq_false_iff_eq.mpr c3
  clear c3
  by_cases c4 : t281 = 0
  ·rw [if_pos c4] at H
   have c4b0 : (t281 == 0) = true := beq_iff_eq.mpr c4
   have c4b1 : (t281 != 0) = false := bne_eq_false_iff_eq.mpr c4
   clear c4
   by_cases c5 : t296 = 3
   ·rw [if_pos c5] at H
    have c5b0 : (t296 == 3) = true := beq_iff_eq.mpr c5
    have c5b1 : (t296 != 3) = false := bne_eq_false_iff_eq.mpr c5
    clear c5
    by_cases c6 : t297 = 7
    ·rw [if_pos c6] at H
     have c6b0 : (t297 == 7) = true := beq_iff_eq.mpr c6
     have c6b1 : (t297 != 7) = false := bne_eq_false_iff_eq.mpr c6
     clear c6
     replace H := Option.bind_eq_some_iff.mp H
     obtain ⟨t299, A70, H⟩ := H
     replace H : (if t299 = true then ((policy_Element.f k t267 t270 t273 t276 t279 (⟨#[105]⟩ : ByteArray)).bind fun t300 => (if t300 = true then (some false) else ((policy_Attr.f k t267 t270 t273 t276 t279 (⟨#[97]⟩ : ByteArray) (⟨#[104, 114, 101, 102]⟩ : ByteArray) (⟨#[47, 120]⟩ : ByteArray)).bind fun t301 => (if t301 = true then ((policy_Attr.f k t267 t270 t273 t276 t279 (⟨#[97]⟩ : ByteArray) (⟨#[104, 114, 101, 102]⟩ : ByteArray) (⟨#[104, 116, 116, 112, 58, 120]⟩ : ByteArray)).bind fun t302 => (if t302 = true then (some false) else ((policy_Check.f k t267 t270 t273 t276 t279).bind fun t303 => (if t303 = 0 then ((policy_Allowed.f k t267 t270 t273 t276 t279 ([] : List (S49))).bind fun t304 => (some t304)) else (some false))))) else (some false))))) else (some false)) = some true := H
     have A7 := Aside0.mk A70
     clear A70
     by_cases c8 : t299 = true
     ·subst c8
      have H1 : ((policy_Element.f k t267 t270 t273 t276 t279 (⟨#[105]⟩ : ByteArray)).bind fun t300 => (if t300 = true then (some false) else ((policy_Attr.f k t267 t270 t273 t276 t279 (⟨#[97]⟩ : ByteArray) (⟨#[104, 114, 101, 102]⟩ : ByteArray) (⟨#[47, 120]⟩ : ByteArray)).bind fun t301 => (if t301 = true then ((policy_Attr.f k t267 t270 t273 t276 t279 (⟨#[97]⟩ : ByteArray) (⟨#[104, 114, 101, 102]⟩ : ByteArray) (⟨#[104, 116, 116, 112, 58, 120]⟩ : ByteArray)).bind fun t302 => (if t302 = true then (some false) else ((policy_Check.f k t267 t270 t273 t276 t279).bind fun t303 => (if t303 = 0 then ((policy_Allowed.f k t267 t270 t273 t276 t279 ([] : List (S49))).bind fun t304 => (some t304)) else (some false))))) else (some false))))) = some true := by rw [if_pos rfl] at H; exact H
      clear H
      have H := H1
      clear H1
      replace H := Option.bind_eq_some_iff.mp H
      obtain ⟨t300, A90, H⟩ := H
      replace H : (if t300 = true then (some false) else ((policy_Attr.f k t267 t270 t273 t276 t279 (⟨#[97]⟩ : ByteArray) (⟨#[104, 114, 101, 102]⟩ : ByteArray) (⟨#[47, 120]⟩ : ByteArray)).bind fun t301 => (if t301 = true then ((policy_Attr.f k t267 t270 t273 t276 t279 (⟨#[97]⟩ : ByteArray) (⟨#[104, 114, 101, 102]⟩ : ByteArray) (⟨#[104, 116, 116, 112, 58, 120]⟩ : ByteArray)).bind fun t302 => (if t302 = true then (some false) else ((policy_Check.f k t267 t270 t273 t276 t279).bind fun t303 => (if t303 = 0 then ((policy_Allowed.f k t267 t270 t273 t276 t279 ([] : List (S49))).bind fun t304 => (some t304)) else (some false))))) else (some false)))) = some true := H
      have A9 := Aside0.mk A90
      clear A90
      by_cases c10 : t300 = true
      ·subst c10
       have H1 : (some false) = some true := by rw [if_pos rfl] at H; exact H
       clear H
       have H := H1
       clear H1
       exact absurd H (by simp)
      replace c10 := Bool.eq_false_iff.mpr c10
      subst c10
      have H1 : ((policy_Attr.f k t267 t270 t273 t276 t279 (⟨#[97]⟩ : ByteArray) (⟨#[104, 114, 101, 102]⟩ : ByteArray) (⟨#[47, 120]⟩ : ByteArray)).bind fun t301 => (if t301 = true then ((policy_Attr.f k t267 t270 t273 t276 t279 (⟨#[97]⟩ : ByteArray) (⟨#[104, 114, 101, 102]⟩ : ByteArray) (⟨#[104, 116, 116, 112, 58, 120]⟩ : ByteArray)).bind fun t302 => (if t302 = true then (some false) else ((policy_Check.f k t267 t270 t273 t276 t279).bind fun t303 => (if t303 = 0 then ((policy_Allowed.f k t267 t270 t273 t276 t279 ([] : List (S49))).bind fun t304 => (some t304)) else (some false))))) else (some false))) = some true := by rw [if_neg (show ¬ (false = true) by decide)] at H; exact H
      clear H
      have H := H1
      clear H1
      replace H := Option.bind_eq_some_iff.mp H
      obtain ⟨t301, A300, H⟩ := H
      replace H : (if t301 = true then ((policy_Attr.f k t267 t270 t273 t276 t279 (⟨#[97]⟩ : ByteArray) (⟨#[104, 114, 101, 102]⟩ : ByteArray) (⟨#[104, 116, 116, 112, 58, 120]⟩ : ByteArray)).bind fun t302 => (if t302 = true then (some false) else ((policy_Check.f k t267 t270 t273 t276 t279).bind fun t303 => (if t303 = 0 then ((policy_Allowed.f k t267 t270 t273 t276 t279 ([] : List (S49))).bind fun t304 => (some t304)) else (some false))))) else (some false)) = some true := H
      have A30 := Aside0.mk A300
      clear A300
      by_cases c31 : t301 = true
      ·subst c31
       have H1 : ((policy_Attr.f k t267 t270 t273 t276 t279 (⟨#[97]⟩ : ByteArray) (⟨#[104, 114, 101, 102]⟩ : ByteArray) (⟨#[104, 116, 116, 112, 58, 120]⟩ : ByteArray)).bind fun t302 => (if t302 = true then (some false) else ((policy_Check.f k t267 t270 t273 t276 t279).bind fun t303 => (if t303 = 0 then ((policy_Allowed.f k t267 t270 t273 t276 t279 ([] : List (S49))).bind fun t304 => (some t304)) else (some false))))) = some true := by rw [if_pos rfl] at H; exact H
       clear H
       have H := H1
       clear H1
       replace H := Option.bind_eq_some_iff.mp H
       obtain ⟨t302, A320, H⟩ := H
       replace H : (if t302 = true then (some false) else ((policy_Check.f k t267 t270 t273 t276 t279).bind fun t303 => (if t303 = 0 then ((policy_Allowed.f k t267 t270 t273 t276 t279 ([] : List (S49))).bind fun t304 => (some t304)) else (some false)))) = some true := H
       have A32 := Aside0.mk A320
       clear A320
       by_cases c33 : t302 = true
       ·subst c33
        have H1 : (some false) = some true := by rw [if_pos rfl] at H; exact H
        clear H
        have H := H1
        clear H1
        exact absurd H (by simp)
       replace c33 := Bool.eq_false_iff.mpr c33
       subst c33
       have H1 : ((policy_Check.f k t267 t270 t273 t276 t279).bind fun t303 => (if t303 = 0 then ((policy_Allowed.f k t267 t270 t273 t276 t279 ([] : List (S49))).bind fun t304 => (some t304)) else (some false))) = some true := by rw [if_neg (show ¬ (false = true) by decide)] at H; exact H
       clear H
       have H := H1
       clear H1
       replace H := Option.bind_eq_some_iff.mp H
       obtain ⟨t303, A570, H⟩ := H
       replace H : (if t303 = 0 then ((policy_Allowed.f k t267 t270 t273 t276 t279 ([] : List (S49))).bind fun t304 => (some t304)) else (some false)) = some true := H
       have A57 := Aside0.mk A570
       clear A570
       by_cases c58 : t303 = 0
       ·rw [if_pos c58] at H
        have c58b0 : (t303 == 0) = true := beq_iff_eq.mpr c58
        have c58b1 : (t303 != 0) = false := bne_eq_false_iff_eq.mpr c58
        clear c58
        replace H := Option.bind_eq_some_iff.mp H
        obtain ⟨t304, A590, H⟩ := H
        replace H : (some t304) = some true := H
        have A59 := Aside0.mk A590
        clear A590
        have hq_ := Option.some.inj H
        clear H
        go_enter Tryd.func10, Tryd.ntmps10
        go_wp2_with (first | ((with_reducible refine gate_callee (f := 13) rfl ?_); refine goL (some 8) Tryd.func13 #[.string (⟨#[100, 101, 101, 112, 32, 51, 10, 101, 108, 101, 109, 101, 110, 116, 32, 98, 10, 101, 108, 101, 109, 101, 110, 116, 32, 97, 32, 104, 114, 101, 102, 10, 108, 105, 110, 107, 32, 104, 114, 101, 102, 10, 115, 99, 104, 101, 109, 101, 32, 104, 116, 116, 112, 115, 10]⟩ : ByteArray)] ?_; (with_reducible refine (policy_Parse.calls k (⟨#[100, 101, 101, 112, 32, 51, 10, 101, 108, 101, 109, 101, 110, 116, 32, 98, 10, 101, 108, 101, 109, 101, 110, 116, 32, 97, 32, 104, 114, 101, 102, 10, 108, 105, 110, 107, 32, 104, 114, 101, 102, 10, 115, 99, 104, 101, 109, 101, 32, 104, 116, 116, 112, 115, 10]⟩ : ByteArray) t267 t270 t273 t276 t279 t280 t281 _ m_ ?hmS A1.out).mono ?_); (case hmS => exact (pw_cell_below Bw HM.out)); rintro e w60 ⟨v268, v271, v274, v277, rfl, ho0, ho1, ho2, ho3, hb⟩; refine ⟨_, rfl, ?_⟩; replace HO269 := Aside0.mk (Kd.S_lower ho0 (below_size Bw)); replace HO272 := Aside0.mk (Kd.R_lower ho1 (below_size Bw)); replace HO275 := Aside0.mk (Kd.R_lower ho2 (below_size Bw)); replace HO278 := Aside0.mk (Kd.R_lower ho3 (below_size Bw)); replace HB := Bs hb; (try clear hb); (try clear hb2); (try clear hk); (try clear hi); (try clear ho0); (try clear ho1); (try clear ho2); (try clear ho3)) | ((with_reducible refine gate_dst (N := 1) rfl ?_); refine box_event ?hg (N := 1) ?hd (cs := #[.slice none 0 0, .slice none 0 0, .slice none 0 0, .slice none 0 0, .int .i64 0]) (t := 25) ?hr ?_; (case hd => rfl); (case hg => rfl); (case hr => first | (go_simp; done) | (go_simp; rfl)); intro gb282 hg w61 hbox hb; have n0_ := Aside0.mk (Kd.S_below (by (with_reducible repeat (first | apply Kd.S_alloc | apply Kd.S_drewN | apply Kd.S_drew)); exact HO269.out) hb); have n1_ := Aside0.mk (Kd.R_below (by (with_reducible repeat (first | apply Kd.R_alloc | apply Kd.R_drewN | apply Kd.R_drew)); exact HO272.out) hb); have n2_ := Aside0.mk (Kd.R_below (by (with_reducible repeat (first | apply Kd.R_alloc | apply Kd.R_drewN | apply Kd.R_drew)); exact HO275.out) hb); have n3_ := Aside0.mk (Kd.R_below (by (with_reducible repeat (first | apply Kd.R_alloc | apply Kd.R_drewN | apply Kd.R_drew)); exact HO278.out) hb); have n4_ := Bs hb; have n5_ := Aside0.mk (hbox); have n6_ := Aside0.mk (Gg hg); have n7_ := Aside0.mk (Gg hg); clear HO269; clear HO272; clear HO275; clear HO278; clear HB; have HO269 := n0_; have HO272 := n1_; have HO275 := n2_; have HO278 := n3_; have HB := n4_; have BK282 := n5_; have GW282 := n6_; have GE282 := n7_; clear n0_ n1_ n2_ n3_ n4_ n5_ n6_ n7_; clear hb hbox hg; obtain ⟨Ao62, co62, eo62⟩ := Kd.S_slice HO269.out; subst eo62; obtain ⟨hcz63_0, hcz63_1, hcz63_2, hcz63_3, hcz63_4, hfz63_0, hfz63_1, hfz63_2, hfz63_3, hfz63_4⟩ := cells5 BK282; obtain ⟨Ao64, co64, eo64⟩ := Kd.R_slice HO272.out; subst eo64; obtain ⟨Ao65, co65, eo65⟩ := Kd.R_slice HO275.out; subst eo65; obtain ⟨Ao66, co66, eo66⟩ := Kd.R_slice HO278.out; subst eo66) | ((with_reducible refine gate_callee (f := 13) rfl ?_); refine goL (some 13) Tryd.func13 #[.string (⟨#[100, 101, 101, 112, 32, 51, 10, 10, 100, 101, 101, 112, 32, 48, 51]⟩ : ByteArray)] ?_; (with_reducible refine (policy_Parse.calls k (⟨#[100, 101, 101, 112, 32, 51, 10, 10, 100, 101, 101, 112, 32, 48, 51]⟩ : ByteArray) t283 t286 t289 t292 t295 t296 t297 _ m_ ?hmS A2.out).mono ?_); (case hmS => exact (pw_cell_below Bw HM.out)); rintro e w67 ⟨v284, v287, v290, v293, rfl, ho0, ho1, ho2, ho3, hb⟩; refine ⟨_, rfl, ?_⟩; have n0_ := Aside0.mk (Kd.S_mono (Kd.S_told (Kd.S_told (Kd.S_told (Kd.S_told (Kd.S_old (by (with_reducible repeat (first | apply Kd.S_alloc | apply Kd.S_drewN | apply Kd.S_drew)); exact (Kd.S_mono (Kd.S_far (p := ⟨gb282, 4, none⟩) (Kd.S_far (p := ⟨gb282, 3, none⟩) (Kd.S_far (p := ⟨gb282, 2, none⟩) (Kd.S_far (p := ⟨gb282, 1, none⟩) (Kd.S_far (p := ⟨gb282, 0, none⟩) (Kd.S_types HO269.out BK282.out (by decide)) (fun _ hk => hk.2) (.slice Ao62 t267.length co62)) (fun _ hk => hk.2) (.slice Ao64 t270.length co64)) (fun _ hk => hk.2) (.slice Ao65 t273.length co65)) (fun _ hk => hk.2) (.slice Ao66 t276.length co66)) (fun _ hk => hk.2) (.int .i64 t279)) (fun _ h_ => h_.1))) hb) (Kd.S_base ho0)) (Kd.R_base ho1)) (Kd.R_base ho2)) (Kd.R_base ho3)) (fun _ h_ => h_.1)); have n1_ := Aside0.mk (Kd.R_mono (Kd.R_told (Kd.R_told (Kd.R_told (Kd.R_old (by (with_reducible repeat (first | apply Kd.R_alloc | apply Kd.R_drewN | apply Kd.R_drew)); exact (Kd.R_mono (Kd.R_far (p := ⟨gb282, 4, none⟩) (Kd.R_far (p := ⟨gb282, 3, none⟩) (Kd.R_far (p := ⟨gb282, 2, none⟩) (Kd.R_far (p := ⟨gb282, 1, none⟩) (Kd.R_far (p := ⟨gb282, 0, none⟩) (Kd.R_types HO272.out BK282.out (by decide)) (fun _ hk => hk.2) (.slice Ao62 t267.length co62)) (fun _ hk => hk.2) (.slice Ao64 t270.length co64)) (fun _ hk => hk.2) (.slice Ao65 t273.length co65)) (fun _ hk => hk.2) (.slice Ao66 t276.length co66)) (fun _ hk => hk.2) (.int .i64 t279)) (fun _ h_ => h_.1))) hb) (Kd.R_base ho1)) (Kd.R_base ho2)) (Kd.R_base ho3)) (fun _ h_ => h_.1)); have n2_ := Aside0.mk (Kd.R_mono (Kd.R_told (Kd.R_told (Kd.R_told (Kd.R_old (by (with_reducible repeat (first | apply Kd.R_alloc | apply Kd.R_drewN | apply Kd.R_drew)); exact (Kd.R_mono (Kd.R_far (p := ⟨gb282, 4, none⟩) (Kd.R_far (p := ⟨gb282, 3, none⟩) (Kd.R_far (p := ⟨gb282, 2, none⟩) (Kd.R_far (p := ⟨gb282, 1, none⟩) (Kd.R_far (p := ⟨gb282, 0, none⟩) (Kd.R_types HO275.out BK282.out (by decide)) (fun _ hk => hk.2) (.slice Ao62 t267.length co62)) (fun _ hk => hk.2) (.slice Ao64 t270.length co64)) (fun _ hk => hk.2) (.slice Ao65 t273.length co65)) (fun _ hk => hk.2) (.slice Ao66 t276.length co66)) (fun _ hk => hk.2) (.int .i64 t279)) (fun _ h_ => h_.1))) hb) (Kd.R_base ho1)) (Kd.R_base ho2)) (Kd.R_base ho3)) (fun _ h_ => h_.1)); have n3_ := Aside0.mk (Kd.R_mono (Kd.R_told (Kd.R_told (Kd.R_told (Kd.R_old (by (with_reducible repeat (first | apply Kd.R_alloc | apply Kd.R_drewN | apply Kd.R_drew)); exact (Kd.R_mono (Kd.R_far (p := ⟨gb282, 4, none⟩) (Kd.R_far (p := ⟨gb282, 3, none⟩) (Kd.R_far (p := ⟨gb282, 2, none⟩) (Kd.R_far (p := ⟨gb282, 1, none⟩) (Kd.R_far (p := ⟨gb282, 0, none⟩) (Kd.R_types HO278.out BK282.out (by decide)) (fun _ hk => hk.2) (.slice Ao62 t267.length co62)) (fun _ hk => hk.2) (.slice Ao64 t270.length co64)) (fun _ hk => hk.2) (.slice Ao65 t273.length co65)) (fun _ hk => hk.2) (.slice Ao66 t276.length co66)) (fun _ hk => hk.2) (.int .i64 t279)) (fun _ h_ => h_.1))) hb) (Kd.R_base ho1)) (Kd.R_base ho2)) (Kd.R_base ho3)) (fun _ h_ => h_.1)); have n4_ := Aside0.mk (Kd.S_lower (Kd.S_new' (Kd.S_new' (Kd.S_new' (Kd.S_new' ho0 (Kd.S_lt (by (with_reducible repeat (first | apply Kd.S_alloc | apply Kd.S_drewN | apply Kd.S_drew)); exact (Kd.S_mono (Kd.S_far (p := ⟨gb282, 4, none⟩) (Kd.S_far (p := ⟨gb282, 3, none⟩) (Kd.S_far (p := ⟨gb282, 2, none⟩) (Kd.S_far (p := ⟨gb282, 1, none⟩) (Kd.S_far (p := ⟨gb282, 0, none⟩) (Kd.S_types HO269.out BK282.out (by decide)) (fun _ hk => hk.2) (.slice Ao62 t267.length co62)) (fun _ hk => hk.2) (.slice Ao64 t270.length co64)) (fun _ hk => hk.2) (.slice Ao65 t273.length co65)) (fun _ hk => hk.2) (.slice Ao66 t276.length co66)) (fun _ hk => hk.2) (.int .i64 t279)) (fun _ h_ => h_.1))))) (Kd.R_lt (by (with_reducible repeat (first | apply Kd.R_alloc | apply Kd.R_drewN | apply Kd.R_drew)); exact (Kd.R_mono (Kd.R_far (p := ⟨gb282, 4, none⟩) (Kd.R_far (p := ⟨gb282, 3, none⟩) (Kd.R_far (p := ⟨gb282, 2, none⟩) (Kd.R_far (p := ⟨gb282, 1, none⟩) (Kd.R_far (p := ⟨gb282, 0, none⟩) (Kd.R_types HO272.out BK282.out (by decide)) (fun _ hk => hk.2) (.slice Ao62 t267.length co62)) (fun _ hk => hk.2) (.slice Ao64 t270.length co64)) (fun _ hk => hk.2) (.slice Ao65 t273.length co65)) (fun _ hk => hk.2) (.slice Ao66 t276.length co66)) (fun _ hk => hk.2) (.int .i64 t279)) (fun _ h_ => h_.1))))) (Kd.R_lt (by (with_reducible repeat (first | apply Kd.R_alloc | apply Kd.R_drewN | apply Kd.R_drew)); exact (Kd.R_mono (Kd.R_far (p := ⟨gb282, 4, none⟩) (Kd.R_far (p := ⟨gb282, 3, none⟩) (Kd.R_far (p := ⟨gb282, 2, none⟩) (Kd.R_far (p := ⟨gb282, 1, none⟩) (Kd.R_far (p := ⟨gb282, 0, none⟩) (Kd.R_types HO275.out BK282.out (by decide)) (fun _ hk => hk.2) (.slice Ao62 t267.length co62)) (fun _ hk => hk.2) (.slice Ao64 t270.length co64)) (fun _ hk => hk.2) (.slice Ao65 t273.length co65)) (fun _ hk => hk.2) (.slice Ao66 t276.length co66)) (fun _ hk => hk.2) (.int .i64 t279)) (fun _ h_ => h_.1))))) (Kd.R_lt (by (with_reducible repeat (first | apply Kd.R_alloc | apply Kd.R_drewN | apply Kd.R_drew)); exact (Kd.R_mono (Kd.R_far (p := ⟨gb282, 4, none⟩) (Kd.R_far (p := ⟨gb282, 3, none⟩) (Kd.R_far (p := ⟨gb282, 2, none⟩) (Kd.R_far (p := ⟨gb282, 1, none⟩) (Kd.R_far (p := ⟨gb282, 0, none⟩) (Kd.R_types HO278.out BK282.out (by decide)) (fun _ hk => hk.2) (.slice Ao62 t267.length co62)) (fun _ hk => hk.2) (.slice Ao64 t270.length co64)) (fun _ hk => hk.2) (.slice Ao65 t273.length co65)) (fun _ hk => hk.2) (.slice Ao66 t276.length co66)) (fun _ hk => hk.2) (.int .i64 t279)) (fun _ h_ => h_.1))))) (below_size Bw)); have n5_ := Aside0.mk (Kd.R_lower (Kd.R_new' (Kd.R_new' (Kd.R_new' ho1 (Kd.R_lt (by (with_reducible repeat (first | apply Kd.R_alloc | apply Kd.R_drewN | apply Kd.R_drew)); exact (Kd.R_mono (Kd.R_far (p := ⟨gb282, 4, none⟩) (Kd.R_far (p := ⟨gb282, 3, none⟩) (Kd.R_far (p := ⟨gb282, 2, none⟩) (Kd.R_far (p := ⟨gb282, 1, none⟩) (Kd.R_far (p := ⟨gb282, 0, none⟩) (Kd.R_types HO272.out BK282.out (by decide)) (fun _ hk => hk.2) (.slice Ao62 t267.length co62)) (fun _ hk => hk.2) (.slice Ao64 t270.length co64)) (fun _ hk => hk.2) (.slice Ao65 t273.length co65)) (fun _ hk => hk.2) (.slice Ao66 t276.length co66)) (fun _ hk => hk.2) (.int .i64 t279)) (fun _ h_ => h_.1))))) (Kd.R_lt (by (with_reducible repeat (first | apply Kd.R_alloc | apply Kd.R_drewN | apply Kd.R_drew)); exact (Kd.R_mono (Kd.R_far (p := ⟨gb282, 4, none⟩) (Kd.R_far (p := ⟨gb282, 3, none⟩) (Kd.R_far (p := ⟨gb282, 2, none⟩) (Kd.R_far (p := ⟨gb282, 1, none⟩) (Kd.R_far (p := ⟨gb282, 0, none⟩) (Kd.R_types HO275.out BK282.out (by decide)) (fun _ hk => hk.2) (.slice Ao62 t267.length co62)) (fun _ hk => hk.2) (.slice Ao64 t270.length co64)) (fun _ hk => hk.2) (.slice Ao65 t273.length co65)) (fun _ hk => hk.2) (.slice Ao66 t276.length co66)) (fun _ hk => hk.2) (.int .i64 t279)) (fun _ h_ => h_.1))))) (Kd.R_lt (by (with_reducible repeat (first | apply Kd.R_alloc | apply Kd.R_drewN | apply Kd.R_drew)); exact (Kd.R_mono (Kd.R_far (p := ⟨gb282, 4, none⟩) (Kd.R_far (p := ⟨gb282, 3, none⟩) (Kd.R_far (p := ⟨gb282, 2, none⟩) (Kd.R_far (p := ⟨gb282, 1, none⟩) (Kd.R_far (p := ⟨gb282, 0, none⟩) (Kd.R_types HO278.out BK282.out (by decide)) (fun _ hk => hk.2) (.slice Ao62 t267.length co62)) (fun _ hk => hk.2) (.slice Ao64 t270.length co64)) (fun _ hk => hk.2) (.slice Ao65 t273.length co65)) (fun _ hk => hk.2) (.slice Ao66 t276.length co66)) (fun _ hk => hk.2) (.int .i64 t279)) (fun _ h_ => h_.1))))) (below_size Bw)); have n6_ := Aside0.mk (Kd.R_lower (Kd.R_new' (Kd.R_new' (Kd.R_new' ho2 (Kd.R_lt (by (with_reducible repeat (first | apply Kd.R_alloc | apply Kd.R_drewN | apply Kd.R_drew)); exact (Kd.R_mono (Kd.R_far (p := ⟨gb282, 4, none⟩) (Kd.R_far (p := ⟨gb282, 3, none⟩) (Kd.R_far (p := ⟨gb282, 2, none⟩) (Kd.R_far (p := ⟨gb282, 1, none⟩) (Kd.R_far (p := ⟨gb282, 0, none⟩) (Kd.R_types HO272.out BK282.out (by decide)) (fun _ hk => hk.2) (.slice Ao62 t267.length co62)) (fun _ hk => hk.2) (.slice Ao64 t270.length co64)) (fun _ hk => hk.2) (.slice Ao65 t273.length co65)) (fun _ hk => hk.2) (.slice Ao66 t276.length co66)) (fun _ hk => hk.2) (.int .i64 t279)) (fun _ h_ => h_.1))))) (Kd.R_lt (by (with_reducible repeat (first | apply Kd.R_alloc | apply Kd.R_drewN | apply Kd.R_drew)); exact (Kd.R_mono (Kd.R_far (p := ⟨gb282, 4, none⟩) (Kd.R_far (p := ⟨gb282, 3, none⟩) (Kd.R_far (p := ⟨gb282, 2, none⟩) (Kd.R_far (p := ⟨gb282, 1, none⟩) (Kd.R_far (p := ⟨gb282, 0, none⟩) (Kd.R_types HO275.out BK282.out (by decide)) (fun _ hk => hk.2) (.slice Ao62 t267.length co62)) (fun _ hk => hk.2) (.slice Ao64 t270.length co64)) (fun _ hk => hk.2) (.slice Ao65 t273.length co65)) (fun _ hk => hk.2) (.slice Ao66 t276.length co66)) (fun _ hk => hk.2) (.int .i64 t279)) (fun _ h_ => h_.1))))) (Kd.R_lt (by (with_reducible repeat (first | apply Kd.R_alloc | apply Kd.R_drewN | apply Kd.R_drew)); exact (Kd.R_mono (Kd.R_far (p := ⟨gb282, 4, none⟩) (Kd.R_far (p := ⟨gb282, 3, none⟩) (Kd.R_far (p := ⟨gb282, 2, none⟩) (Kd.R_far (p := ⟨gb282, 1, none⟩) (Kd.R_far (p := ⟨gb282, 0, none⟩) (Kd.R_types HO278.out BK282.out (by decide)) (fun _ hk => hk.2) (.slice Ao62 t267.length co62)) (fun _ hk => hk.2) (.slice Ao64 t270.length co64)) (fun _ hk => hk.2) (.slice Ao65 t273.length co65)) (fun _ hk => hk.2) (.slice Ao66 t276.length co66)) (fun _ hk => hk.2) (.int .i64 t279)) (fun _ h_ => h_.1))))) (below_size Bw)); have n7_ := Aside0.mk (Kd.R_lower (Kd.R_new' (Kd.R_new' (Kd.R_new' ho3 (Kd.R_lt (by (with_reducible repeat (first | apply Kd.R_alloc | apply Kd.R_drewN | apply Kd.R_drew)); exact (Kd.R_mono (Kd.R_far (p := ⟨gb282, 4, none⟩) (Kd.R_far (p := ⟨gb282, 3, none⟩) (Kd.R_far (p := ⟨gb282, 2, none⟩) (Kd.R_far (p := ⟨gb282, 1, none⟩) (Kd.R_far (p := ⟨gb282, 0, none⟩) (Kd.R_types HO272.out BK282.out (by decide)) (fun _ hk => hk.2) (.slice Ao62 t267.length co62)) (fun _ hk => hk.2) (.slice Ao64 t270.length co64)) (fun _ hk => hk.2) (.slice Ao65 t273.length co65)) (fun _ hk => hk.2) (.slice Ao66 t276.length co66)) (fun _ hk => hk.2) (.int .i64 t279)) (fun _ h_ => h_.1))))) (Kd.R_lt (by (with_reducible repeat (first | apply Kd.R_alloc | apply Kd.R_drewN | apply Kd.R_drew)); exact (Kd.R_mono (Kd.R_far (p := ⟨gb282, 4, none⟩) (Kd.R_far (p := ⟨gb282, 3, none⟩) (Kd.R_far (p := ⟨gb282, 2, none⟩) (Kd.R_far (p := ⟨gb282, 1, none⟩) (Kd.R_far (p := ⟨gb282, 0, none⟩) (Kd.R_types HO275.out BK282.out (by decide)) (fun _ hk => hk.2) (.slice Ao62 t267.length co62)) (fun _ hk => hk.2) (.slice Ao64 t270.length co64)) (fun _ hk => hk.2) (.slice Ao65 t273.length co65)) (fun _ hk => hk.2) (.slice Ao66 t276.length co66)) (fun _ hk => hk.2) (.int .i64 t279)) (fun _ h_ => h_.1))))) (Kd.R_lt (by (with_reducible repeat (first | apply Kd.R_alloc | apply Kd.R_drewN | apply Kd.R_drew)); exact (Kd.R_mono (Kd.R_far (p := ⟨gb282, 4, none⟩) (Kd.R_far (p := ⟨gb282, 3, none⟩) (Kd.R_far (p := ⟨gb282, 2, none⟩) (Kd.R_far (p := ⟨gb282, 1, none⟩) (Kd.R_far (p := ⟨gb282, 0, none⟩) (Kd.R_types HO278.out BK282.out (by decide)) (fun _ hk => hk.2) (.slice Ao62 t267.length co62)) (fun _ hk => hk.2) (.slice Ao64 t270.length co64)) (fun _ hk => hk.2) (.slice Ao65 t273.length co65)) (fun _ hk => hk.2) (.slice Ao66 t276.length co66)) (fun _ hk => hk.2) (.int .i64 t279)) (fun _ h_ => h_.1))))) (below_size Bw)); have n8_ := Aside0.mk (blk_below (g := gb282) (o := .cells #[.slice Ao62 t267.length co62, .slice Ao64 t270.length co64, .slice Ao65 t273.length co65, .slice Ao66 t276.length co66, .int .i64 t279] 25 (0, 0)) (by (with_reducible repeat (first | refine blk_drewN ?_ _ | refine blk_drew ?_ | refine blk_alloc ?_ _)); refine blk_put (cs := #[.slice Ao62 t267.length co62, .slice Ao64 t270.length co64, .slice Ao65 t273.length co65, .slice Ao66 t276.length co66, .int .i64 0]) ?_ 4 _ rfl; (with_reducible repeat (first | refine blk_drewN ?_ _ | refine blk_drew ?_ | refine blk_alloc ?_ _)); refine blk_put (cs := #[.slice Ao62 t267.length co62, .slice Ao64 t270.length co64, .slice Ao65 t273.length co65, .slice none 0 0, .int .i64 0]) ?_ 3 _ rfl; (with_reducible repeat (first | refine blk_drewN ?_ _ | refine blk_drew ?_ | refine blk_alloc ?_ _)); refine blk_put (cs := #[.slice Ao62 t267.length co62, .slice Ao64 t270.length co64, .slice none 0 0, .slice none 0 0, .int .i64 0]) ?_ 2 _ rfl; (with_reducible repeat (first | refine blk_drewN ?_ _ | refine blk_drew ?_ | refine blk_alloc ?_ _)); refine blk_put (cs := #[.slice Ao62 t267.length co62, .slice none 0 0, .slice none 0 0, .slice none 0 0, .int .i64 0]) ?_ 1 _ rfl; (with_reducible repeat (first | refine blk_drewN ?_ _ | refine blk_drew ?_ | refine blk_alloc ?_ _)); refine blk_put (cs := #[.slice none 0 0, .slice none 0 0, .slice none 0 0, .slice none 0 0, .int .i64 0]) ?_ 0 _ rfl; (with_reducible repeat (first | refine blk_drewN ?_ _ | refine blk_drew ?_ | refine blk_alloc ?_ _)); exact BK282.out) hb); have n9_ := Bs hb; clear HO269; clear HO272; clear HO275; clear HO278; clear BK282; clear HB; have HO269 := n0_; have HO272 := n1_; have HO275 := n2_; have HO278 := n3_; have HO285 := n4_; have HO288 := n5_; have HO291 := n6_; have HO294 := n7_; have BK282 := n8_; have HB := n9_; clear n0_ n1_ n2_ n3_ n4_ n5_ n6_ n7_ n8_ n9_; (try clear hb); (try clear hb2); (try clear hk); (try clear hi); (try clear ho0); (try clear ho1); (try clear ho2); (try clear ho3)) | ((with_reducible refine gate_dst (N := 4) rfl ?_); refine box_event ?hg (N := 4) ?hd (cs := #[.slice none 0 0, .slice none 0 0, .slice none 0 0, .slice none 0 0, .int .i64 0]) (t := 25) ?hr ?_; (case hd => rfl); (case hg => rfl); (case hr => first | (go_simp; done) | (go_simp; rfl)); intro gb298 hg w68 hbox hb; have n0_ := Aside0.mk (Kd.S_below (by (with_reducible repeat (first | apply Kd.S_alloc | apply Kd.S_drewN | apply Kd.S_drew)); exact HO269.out) hb); have n1_ := Aside0.mk (Kd.R_below (by (with_reducible repeat (first | apply Kd.R_alloc | apply Kd.R_drewN | apply Kd.R_drew)); exact HO272.out) hb); have n2_ := Aside0.mk (Kd.R_below (by (with_reducible repeat (first | apply Kd.R_alloc | apply Kd.R_drewN | apply Kd.R_drew)); exact HO275.out) hb); have n3_ := Aside0.mk (Kd.R_below (by (with_reducible repeat (first | apply Kd.R_alloc | apply Kd.R_drewN | apply Kd.R_drew)); exact HO278.out) hb); have n4_ := Aside0.mk (Kd.S_below (by (with_reducible repeat (first | apply Kd.S_alloc | apply Kd.S_drewN | apply Kd.S_drew)); exact HO285.out) hb); have n5_ := Aside0.mk (Kd.R_below (by (with_reducible repeat (first | apply Kd.R_alloc | apply Kd.R_drewN | apply Kd.R_drew)); exact HO288.out) hb); have n6_ := Aside0.mk (Kd.R_below (by (with_reducible repeat (first | apply Kd.R_alloc | apply Kd.R_drewN | apply Kd.R_drew)); exact HO291.out) hb); have n7_ := Aside0.mk (Kd.R_below (by (with_reducible repeat (first | apply Kd.R_alloc | apply Kd.R_drewN | apply Kd.R_drew)); exact HO294.out) hb); have n8_ := Bb BK282 hb; have n9_ := Bs hb; have n10_ := Aside0.mk (hbox); have n11_ := Aside0.mk (Gg hg); have n12_ := Aside0.mk (Gg hg); have n13_ := Aside0.mk ((by rw [hg]; exact Nat.ne_of_lt (blk_lt (g := gb282) (o := .cells #[.slice Ao62 t267.length co62, .slice Ao64 t270.length co64, .slice Ao65 t273.length co65, .slice Ao66 t276.length co66, .int .i64 t279] 25 (0, 0)) (Bk BK282)) : gb282 ≠ gb298)); have n14_ := Aside0.mk ((by rw [hg]; exact Nat.ne_of_gt (blk_lt (g := gb282) (o := .cells #[.slice Ao62 t267.length co62, .slice Ao64 t270.length co64, .slice Ao65 t273.length co65, .slice Ao66 t276.length co66, .int .i64 t279] 25 (0, 0)) (Bk BK282)) : gb298 ≠ gb282)); clear HO269; clear HO272; clear HO275; clear HO278; clear HO285; clear HO288; clear HO291; clear HO294; clear BK282; clear HB; have HO269 := n0_; have HO272 := n1_; have HO275 := n2_; have HO278 := n3_; have HO285 := n4_; have HO288 := n5_; have HO291 := n6_; have HO294 := n7_; have BK282 := n8_; have HB := n9_; have BK298 := n10_; have GW298 := n11_; have GE298 := n12_; have NB282_298 := n13_; have NB298_282 := n14_; clear n0_ n1_ n2_ n3_ n4_ n5_ n6_ n7_ n8_ n9_ n10_ n11_ n12_ n13_ n14_; clear hb hbox hg; obtain ⟨Ao69, co69, eo69⟩ := Kd.S_slice HO285.out; subst eo69; have hnb70 := NB298_282.out; have hnc70 := NB282_298.out; obtain ⟨hcz71_0, hcz71_1, hcz71_2, hcz71_3, hcz71_4, hfz71_0, hfz71_1, hfz71_2, hfz71_3, hfz71_4⟩ := cells5 BK298; obtain ⟨Ao72, co72, eo72⟩ := Kd.R_slice HO288.out; subst eo72; obtain ⟨Ao73, co73, eo73⟩ := Kd.R_slice HO291.out; subst eo73; obtain ⟨Ao74, co74, eo74⟩ := Kd.R_slice HO294.out; subst eo74; obtain ⟨hcz75_0, hcz75_1, hcz75_2, hcz75_3, hcz75_4, hfz75_0, hfz75_1, hfz75_2, hfz75_3, hfz75_4⟩ := cells5 BK282) | (go_at_call 16; (with_reducible refine (policy_Element.calls k _ _ t267 _ _ t270 _ _ t273 _ _ t276 t279 (⟨#[98]⟩ : ByteArray) true _ ?side1 ?side2 ?side3 ?side4 ?side5 ?side6 ?side7 ?side8 A7.out).mono ?_); (case side1 => refine (Kd.S_reads' (e := 53) (base := w.heap.size) (ok := fun k_ => (((((some k_ ≠ (.slice Ao64 t270.length co64 : Value).ownBlock ∧ (some k_ ≠ (.slice Ao65 t273.length co65 : Value).ownBlock ∧ some k_ ≠ (.slice Ao66 t276.length co66 : Value).ownBlock)) ∧ some k_ ≠ (.slice Ao69 t283.length co69 : Value).ownBlock) ∧ some k_ ≠ (.slice Ao72 t286.length co72 : Value).ownBlock) ∧ some k_ ≠ (.slice Ao73 t289.length co73 : Value).ownBlock) ∧ some k_ ≠ (.slice Ao74 t292.length co74 : Value).ownBlock)) (n := t267.length) (c := co62) ?_).2.2; exact (by (with_reducible repeat (first | apply Kd.S_alloc | apply Kd.S_drewN | apply Kd.S_drew)); exact (Kd.S_mono (Kd.S_far (p := ⟨gb298, 4, none⟩) (Kd.S_far (p := ⟨gb298, 3, none⟩) (Kd.S_far (p := ⟨gb298, 2, none⟩) (Kd.S_far (p := ⟨gb298, 1, none⟩) (Kd.S_far (p := ⟨gb298, 0, none⟩) (Kd.S_types HO269.out BK298.out (by decide)) (fun _ hk => hk.2) (.slice Ao69 t283.length co69)) (fun _ hk => hk.2) (.slice Ao72 t286.length co72)) (fun _ hk => hk.2) (.slice Ao73 t289.length co73)) (fun _ hk => hk.2) (.slice Ao74 t292.length co74)) (fun _ hk => hk.2) (.int .i64 t295)) (fun _ h_ => h_.1)))); (case side2 => exact (Kd.S_reads' HO269.out).2.1); (case side3 => refine (Kd.R_reads' (e := 9) (base := w.heap.size) (ok := fun k_ => ((((some k_ ≠ (.slice Ao65 t273.length co65 : Value).ownBlock ∧ some k_ ≠ (.slice Ao66 t276.length co66 : Value).ownBlock) ∧ some k_ ≠ (.slice Ao72 t286.length co72 : Value).ownBlock) ∧ some k_ ≠ (.slice Ao73 t289.length co73 : Value).ownBlock) ∧ some k_ ≠ (.slice Ao74 t292.length co74 : Value).ownBlock)) (n := t270.length) (c := co64) ?_).2.2; exact (by (with_reducible repeat (first | apply Kd.R_alloc | apply Kd.R_drewN | apply Kd.R_drew)); exact (Kd.R_mono (Kd.R_far (p := ⟨gb298, 4, none⟩) (Kd.R_far (p := ⟨gb298, 3, none⟩) (Kd.R_far (p := ⟨gb298, 2, none⟩) (Kd.R_far (p := ⟨gb298, 1, none⟩) (Kd.R_far (p := ⟨gb298, 0, none⟩) (Kd.R_types HO272.out BK298.out (by decide)) (fun _ hk => hk.2) (.slice Ao69 t283.length co69)) (fun _ hk => hk.2) (.slice Ao72 t286.length co72)) (fun _ hk => hk.2) (.slice Ao73 t289.length co73)) (fun _ hk => hk.2) (.slice Ao74 t292.length co74)) (fun _ hk => hk.2) (.int .i64 t295)) (fun _ h_ => h_.1)))); (case side4 => exact (Kd.R_reads' HO272.out).2.1); (case side5 => refine (Kd.R_reads' (e := 9) (base := w.heap.size) (ok := fun k_ => ((((some k_ ≠ (.slice Ao64 t270.length co64 : Value).ownBlock ∧ some k_ ≠ (.slice Ao66 t276.length co66 : Value).ownBlock) ∧ some k_ ≠ (.slice Ao72 t286.length co72 : Value).ownBlock) ∧ some k_ ≠ (.slice Ao73 t289.length co73 : Value).ownBlock) ∧ some k_ ≠ (.slice Ao74 t292.length co74 : Value).ownBlock)) (n := t273.length) (c := co65) ?_).2.2; exact (by (with_reducible repeat (first | apply Kd.R_alloc | apply Kd.R_drewN | apply Kd.R_drew)); exact (Kd.R_mono (Kd.R_far (p := ⟨gb298, 4, none⟩) (Kd.R_far (p := ⟨gb298, 3, none⟩) (Kd.R_far (p := ⟨gb298, 2, none⟩) (Kd.R_far (p := ⟨gb298, 1, none⟩) (Kd.R_far (p := ⟨gb298, 0, none⟩) (Kd.R_types HO275.out BK298.out (by decide)) (fun _ hk => hk.2) (.slice Ao69 t283.length co69)) (fun _ hk => hk.2) (.slice Ao72 t286.length co72)) (fun _ hk => hk.2) (.slice Ao73 t289.length co73)) (fun _ hk => hk.2) (.slice Ao74 t292.length co74)) (fun _ hk => hk.2) (.int .i64 t295)) (fun _ h_ => h_.1)))); (case side6 => exact (Kd.R_reads' HO275.out).2.1); (case side7 => refine (Kd.R_reads' (e := 9) (base := w.heap.size) (ok := fun k_ => ((((some k_ ≠ (.slice Ao64 t270.length co64 : Value).ownBlock ∧ some k_ ≠ (.slice Ao65 t273.length co65 : Value).ownBlock) ∧ some k_ ≠ (.slice Ao72 t286.length co72 : Value).ownBlock) ∧ some k_ ≠ (.slice Ao73 t289.length co73 : Value).ownBlock) ∧ some k_ ≠ (.slice Ao74 t292.length co74 : Value).ownBlock)) (n := t276.length) (c := co66) ?_).2.2; exact (by (with_reducible repeat (first | apply Kd.R_alloc | apply Kd.R_drewN | apply Kd.R_drew)); exact (Kd.R_mono (Kd.R_far (p := ⟨gb298, 4, none⟩) (Kd.R_far (p := ⟨gb298, 3, none⟩) (Kd.R_far (p := ⟨gb298, 2, none⟩) (Kd.R_far (p := ⟨gb298, 1, none⟩) (Kd.R_far (p := ⟨gb298, 0, none⟩) (Kd.R_types HO278.out BK298.out (by decide)) (fun _ hk => hk.2) (.slice Ao69 t283.length co69)) (fun _ hk => hk.2) (.slice Ao72 t286.length co72)) (fun _ hk => hk.2) (.slice Ao73 t289.length co73)) (fun _ hk => hk.2) (.slice Ao74 t292.length co74)) (fun _ hk => hk.2) (.int .i64 t295)) (fun _ h_ => h_.1)))); (case side8 => exact (Kd.R_reads' HO278.out).2.1); rintro e w76 ⟨rfl, hb⟩; have n0_ := Aside0.mk (Kd.S_below (by (with_reducible repeat (first | apply Kd.S_alloc | apply Kd.S_drewN | apply Kd.S_drew)); exact (Kd.S_mono (Kd.S_far (p := ⟨gb298, 4, none⟩) (Kd.S_far (p := ⟨gb298, 3, none⟩) (Kd.S_far (p := ⟨gb298, 2, none⟩) (Kd.S_far (p := ⟨gb298, 1, none⟩) (Kd.S_far (p := ⟨gb298, 0, none⟩) (Kd.S_types HO269.out BK298.out (by decide)) (fun _ hk => hk.2) (.slice Ao69 t283.length co69)) (fun _ hk => hk.2) (.slice Ao72 t286.length co72)) (fun _ hk => hk.2) (.slice Ao73 t289.length co73)) (fun _ hk => hk.2) (.slice Ao74 t292.length co74)) (fun _ hk => hk.2) (.int .i64 t295)) (fun _ h_ => h_.1))) hb); have n1_ := Aside0.mk (Kd.R_below (by (with_reducible repeat (first | apply Kd.R_alloc | apply Kd.R_drewN | apply Kd.R_drew)); exact (Kd.R_mono (Kd.R_far (p := ⟨gb298, 4, none⟩) (Kd.R_far (p := ⟨gb298, 3, none⟩) (Kd.R_far (p := ⟨gb298, 2, none⟩) (Kd.R_far (p := ⟨gb298, 1, none⟩) (Kd.R_far (p := ⟨gb298, 0, none⟩) (Kd.R_types HO272.out BK298.out (by decide)) (fun _ hk => hk.2) (.slice Ao69 t283.length co69)) (fun _ hk => hk.2) (.slice Ao72 t286.length co72)) (fun _ hk => hk.2) (.slice Ao73 t289.length co73)) (fun _ hk => hk.2) (.slice Ao74 t292.length co74)) (fun _ hk => hk.2) (.int .i64 t295)) (fun _ h_ => h_.1))) hb); have n2_ := Aside0.mk (Kd.R_below (by (with_reducible repeat (first | apply Kd.R_alloc | apply Kd.R_drewN | apply Kd.R_drew)); exact (Kd.R_mono (Kd.R_far (p := ⟨gb298, 4, none⟩) (Kd.R_far (p := ⟨gb298, 3, none⟩) (Kd.R_far (p := ⟨gb298, 2, none⟩) (Kd.R_far (p := ⟨gb298, 1, none⟩) (Kd.R_far (p := ⟨gb298, 0, none⟩) (Kd.R_types HO275.out BK298.out (by decide)) (fun _ hk => hk.2) (.slice Ao69 t283.length co69)) (fun _ hk => hk.2) (.slice Ao72 t286.length co72)) (fun _ hk => hk.2) (.slice Ao73 t289.length co73)) (fun _ hk => hk.2) (.slice Ao74 t292.length co74)) (fun _ hk => hk.2) (.int .i64 t295)) (fun _ h_ => h_.1))) hb); have n3_ := Aside0.mk (Kd.R_below (by (with_reducible repeat (first | apply Kd.R_alloc | apply Kd.R_drewN | apply Kd.R_drew)); exact (Kd.R_mono (Kd.R_far (p := ⟨gb298, 4, none⟩) (Kd.R_far (p := ⟨gb298, 3, none⟩) (Kd.R_far (p := ⟨gb298, 2, none⟩) (Kd.R_far (p := ⟨gb298, 1, none⟩) (Kd.R_far (p := ⟨gb298, 0, none⟩) (Kd.R_types HO278.out BK298.out (by decide)) (fun _ hk => hk.2) (.slice Ao69 t283.length co69)) (fun _ hk => hk.2) (.slice Ao72 t286.length co72)) (fun _ hk => hk.2) (.slice Ao73 t289.length co73)) (fun _ hk => hk.2) (.slice Ao74 t292.length co74)) (fun _ hk => hk.2) (.int .i64 t295)) (fun _ h_ => h_.1))) hb); have n4_ := Aside0.mk (Kd.S_below (by (with_reducible repeat (first | apply Kd.S_alloc | apply Kd.S_drewN | apply Kd.S_drew)); exact (Kd.S_mono (Kd.S_far (p := ⟨gb298, 4, none⟩) (Kd.S_far (p := ⟨gb298, 3, none⟩) (Kd.S_far (p := ⟨gb298, 2, none⟩) (Kd.S_far (p := ⟨gb298, 1, none⟩) (Kd.S_far (p := ⟨gb298, 0, none⟩) (Kd.S_types HO285.out BK298.out (by decide)) (fun _ hk => hk.2) (.slice Ao69 t283.length co69)) (fun _ hk => hk.2) (.slice Ao72 t286.length co72)) (fun _ hk => hk.2) (.slice Ao73 t289.length co73)) (fun _ hk => hk.2) (.slice Ao74 t292.length co74)) (fun _ hk => hk.2) (.int .i64 t295)) (fun _ h_ => h_.1))) hb); have n5_ := Aside0.mk (Kd.R_below (by (with_reducible repeat (first | apply Kd.R_alloc | apply Kd.R_drewN | apply Kd.R_drew)); exact (Kd.R_mono (Kd.R_far (p := ⟨gb298, 4, none⟩) (Kd.R_far (p := ⟨gb298, 3, none⟩) (Kd.R_far (p := ⟨gb298, 2, none⟩) (Kd.R_far (p := ⟨gb298, 1, none⟩) (Kd.R_far (p := ⟨gb298, 0, none⟩) (Kd.R_types HO288.out BK298.out (by decide)) (fun _ hk => hk.2) (.slice Ao69 t283.length co69)) (fun _ hk => hk.2) (.slice Ao72 t286.length co72)) (fun _ hk => hk.2) (.slice Ao73 t289.length co73)) (fun _ hk => hk.2) (.slice Ao74 t292.length co74)) (fun _ hk => hk.2) (.int .i64 t295)) (fun _ h_ => h_.1))) hb); have n6_ := Aside0.mk (Kd.R_below (by (with_reducible repeat (first | apply Kd.R_alloc | apply Kd.R_drewN | apply Kd.R_drew)); exact (Kd.R_mono (Kd.R_far (p := ⟨gb298, 4, none⟩) (Kd.R_far (p := ⟨gb298, 3, none⟩) (Kd.R_far (p := ⟨gb298, 2, none⟩) (Kd.R_far (p := ⟨gb298, 1, none⟩) (Kd.R_far (p := ⟨gb298, 0, none⟩) (Kd.R_types HO291.out BK298.out (by decide)) (fun _ hk => hk.2) (.slice Ao69 t283.length co69)) (fun _ hk => hk.2) (.slice Ao72 t286.length co72)) (fun _ hk => hk.2) (.slice Ao73 t289.length co73)) (fun _ hk => hk.2) (.slice Ao74 t292.length co74)) (fun _ hk => hk.2) (.int .i64 t295)) (fun _ h_ => h_.1))) hb); have n7_ := Aside0.mk (Kd.R_below (by (with_reducible repeat (first | apply Kd.R_alloc | apply Kd.R_drewN | apply Kd.R_drew)); exact (Kd.R_mono (Kd.R_far (p := ⟨gb298, 4, none⟩) (Kd.R_far (p := ⟨gb298, 3, none⟩) (Kd.R_far (p := ⟨gb298, 2, none⟩) (Kd.R_far (p := ⟨gb298, 1, none⟩) (Kd.R_far (p := ⟨gb298, 0, none⟩) (Kd.R_types HO294.out BK298.out (by decide)) (fun _ hk => hk.2) (.slice Ao69 t283.length co69)) (fun _ hk => hk.2) (.slice Ao72 t286.length co72)) (fun _ hk => hk.2) (.slice Ao73 t289.length co73)) (fun _ hk => hk.2) (.slice Ao74 t292.length co74)) (fun _ hk => hk.2) (.int .i64 t295)) (fun _ h_ => h_.1))) hb); have n8_ := Aside0.mk (blk_below (g := gb282) (o := .cells #[.slice Ao62 t267.length co62, .slice Ao64 t270.length co64, .slice Ao65 t273.length co65, .slice Ao66 t276.length co66, .int .i64 t279] 25 (0, 0)) (by (with_reducible repeat (first | refine blk_drewN ?_ _ | refine blk_drew ?_ | refine blk_alloc ?_ _)); refine blk_far ?_ NB282_298.out _; (with_reducible repeat (first | refine blk_drewN ?_ _ | refine blk_drew ?_ | refine blk_alloc ?_ _)); refine blk_far ?_ NB282_298.out _; (with_reducible repeat (first | refine blk_drewN ?_ _ | refine blk_drew ?_ | refine blk_alloc ?_ _)); refine blk_far ?_ NB282_298.out _; (with_reducible repeat (first | refine blk_drewN ?_ _ | refine blk_drew ?_ | refine blk_alloc ?_ _)); refine blk_far ?_ NB282_298.out _; (with_reducible repeat (first | refine blk_drewN ?_ _ | refine blk_drew ?_ | refine blk_alloc ?_ _)); refine blk_far ?_ NB282_298.out _; (with_reducible repeat (first | refine blk_drewN ?_ _ | refine blk_drew ?_ | refine blk_alloc ?_ _)); exact BK282.out) hb); have n9_ := Aside0.mk (blk_below (g := gb298) (o := .cells #[.slice Ao69 t283.length co69, .slice Ao72 t286.length co72, .slice Ao73 t289.length co73, .slice Ao74 t292.length co74, .int .i64 t295] 25 (0, 0)) (by (with_reducible repeat (first | refine blk_drewN ?_ _ | refine blk_drew ?_ | refine blk_alloc ?_ _)); refine blk_put (cs := #[.slice Ao69 t283.length co69, .slice Ao72 t286.length co72, .slice Ao73 t289.length co73, .slice Ao74 t292.length co74, .int .i64 0]) ?_ 4 _ rfl; (with_reducible repeat (first | refine blk_drewN ?_ _ | refine blk_drew ?_ | refine blk_alloc ?_ _)); refine blk_put (cs := #[.slice Ao69 t283.length co69, .slice Ao72 t286.length co72, .slice Ao73 t289.length co73, .slice none 0 0, .int .i64 0]) ?_ 3 _ rfl; (with_reducible repeat (first | refine blk_drewN ?_ _ | refine blk_drew ?_ | refine blk_alloc ?_ _)); refine blk_put (cs := #[.slice Ao69 t283.length co69, .slice Ao72 t286.length co72, .slice none 0 0, .slice none 0 0, .int .i64 0]) ?_ 2 _ rfl; (with_reducible repeat (first | refine blk_drewN ?_ _ | refine blk_drew ?_ | refine blk_alloc ?_ _)); refine blk_put (cs := #[.slice Ao69 t283.length co69, .slice none 0 0, .slice none 0 0, .slice none 0 0, .int .i64 0]) ?_ 1 _ rfl; (with_reducible repeat (first | refine blk_drewN ?_ _ | refine blk_drew ?_ | refine blk_alloc ?_ _)); refine blk_put (cs := #[.slice none 0 0, .slice none 0 0, .slice none 0 0, .slice none 0 0, .int .i64 0]) ?_ 0 _ rfl; (with_reducible repeat (first | refine blk_drewN ?_ _ | refine blk_drew ?_ | refine blk_alloc ?_ _)); exact BK298.out) hb); have n10_ := Bs hb; clear HO269; clear HO272; clear HO275; clear HO278; clear HO285; clear HO288; clear HO291; clear HO294; clear BK282; clear BK298; clear HB; have HO269 := n0_; have HO272 := n1_; have HO275 := n2_; have HO278 := n3_; have HO285 := n4_; have HO288 := n5_; have HO291 := n6_; have HO294 := n7_; have BK282 := n8_; have BK298 := n9_; have HB := n10_; clear n0_ n1_ n2_ n3_ n4_ n5_ n6_ n7_ n8_ n9_ n10_; (try clear hb); (try clear hb2); (try clear hk); (try clear hi); obtain ⟨hcz77_0, hcz77_1, hcz77_2, hcz77_3, hcz77_4, hfz77_0, hfz77_1, hfz77_2, hfz77_3, hfz77_4⟩ := cells5 BK282) | (go_at_call 16; (with_reducible refine (policy_Element.calls k _ _ t267 _ _ t270 _ _ t273 _ _ t276 t279 (⟨#[105]⟩ : ByteArray) false _ ?side1 ?side2 ?side3 ?side4 ?side5 ?side6 ?side7 ?side8 A9.out).mono ?_); (case side1 => repeat (first | exact (Kd.S_reads' HO269.out).2.2 | (with_reducible refine Kd.C_alloc ?_ _) | (with_reducible refine Kd.C_drewN ?_ _) | (with_reducible refine Kd.C_drew ?_))); (case side2 => exact (Kd.S_reads' HO269.out).2.1); (case side3 => repeat (first | exact (Kd.R_reads' HO272.out).2.2 | (with_reducible refine Kd.C_alloc ?_ _) | (with_reducible refine Kd.C_drewN ?_ _) | (with_reducible refine Kd.C_drew ?_))); (case side4 => exact (Kd.R_reads' HO272.out).2.1); (case side5 => repeat (first | exact (Kd.R_reads' HO275.out).2.2 | (with_reducible refine Kd.C_alloc ?_ _) | (with_reducible refine Kd.C_drewN ?_ _) | (with_reducible refine Kd.C_drew ?_))); (case side6 => exact (Kd.R_reads' HO275.out).2.1); (case side7 => repeat (first | exact (Kd.R_reads' HO278.out).2.2 | (with_reducible refine Kd.C_alloc ?_ _) | (with_reducible refine Kd.C_drewN ?_ _) | (with_reducible refine Kd.C_drew ?_))); (case side8 => exact (Kd.R_reads' HO278.out).2.1); rintro e w78 ⟨rfl, hb⟩; have n0_ := Aside0.mk (Kd.S_below (by (with_reducible repeat (first | apply Kd.S_alloc | apply Kd.S_drewN | apply Kd.S_drew)); exact HO269.out) hb); have n1_ := Aside0.mk (Kd.R_below (by (with_reducible repeat (first | apply Kd.R_alloc | apply Kd.R_drewN | apply Kd.R_drew)); exact HO272.out) hb); have n2_ := Aside0.mk (Kd.R_below (by (with_reducible repeat (first | apply Kd.R_alloc | apply Kd.R_drewN | apply Kd.R_drew)); exact HO275.out) hb); have n3_ := Aside0.mk (Kd.R_below (by (with_reducible repeat (first | apply Kd.R_alloc | apply Kd.R_drewN | apply Kd.R_drew)); exact HO278.out) hb); have n4_ := Aside0.mk (Kd.S_below (by (with_reducible repeat (first | apply Kd.S_alloc | apply Kd.S_drewN | apply Kd.S_drew)); exact HO285.out) hb); have n5_ := Aside0.mk (Kd.R_below (by (with_reducible repeat (first | apply Kd.R_alloc | apply Kd.R_drewN | apply Kd.R_drew)); exact HO288.out) hb); have n6_ := Aside0.mk (Kd.R_below (by (with_reducible repeat (first | apply Kd.R_alloc | apply Kd.R_drewN | apply Kd.R_drew)); exact HO291.out) hb); have n7_ := Aside0.mk (Kd.R_below (by (with_reducible repeat (first | apply Kd.R_alloc | apply Kd.R_drewN | apply Kd.R_drew)); exact HO294.out) hb); have n8_ := Bb BK282 hb; have n9_ := Bb BK298 hb; have n10_ := Bs hb; clear HO269; clear HO272; clear HO275; clear HO278; clear HO285; clear HO288; clear HO291; clear HO294; clear BK282; clear BK298; clear HB; have HO269 := n0_; have HO272 := n1_; have HO275 := n2_; have HO278 := n3_; have HO285 := n4_; have HO288 := n5_; have HO291 := n6_; have HO294 := n7_; have BK282 := n8_; have BK298 := n9_; have HB := n10_; clear n0_ n1_ n2_ n3_ n4_ n5_ n6_ n7_ n8_ n9_ n10_; (try clear hb); (try clear hb2); (try clear hk); (try clear hi); obtain ⟨hcz79_0, hcz79_1, hcz79_2, hcz79_3, hcz79_4, hfz79_0, hfz79_1, hfz79_2, hfz79_3, hfz79_4⟩ := cells5 BK282) | (go_at_call 18; (with_reducible refine (policy_Attr.calls k _ _ t267 _ _ t270 _ _ t273 _ _ t276 t279 (⟨#[97]⟩ : ByteArray) (⟨#[104, 114, 101, 102]⟩ : ByteArray) (⟨#[47, 120]⟩ : ByteArray) true _ ?side1 ?side2 ?side3 ?side4 ?side5 ?side6 ?side7 ?side8 A30.out).mono ?_); (case side1 => repeat (first | exact (Kd.S_reads' HO269.out).2.2 | (with_reducible refine Kd.C_alloc ?_ _) | (with_reducible refine Kd.C_drewN ?_ _) | (with_reducible refine Kd.C_drew ?_))); (case side2 => exact (Kd.S_reads' HO269.out).2.1); (case side3 => repeat (first | exact (Kd.R_reads' HO272.out).2.2 | (with_reducible refine Kd.C_alloc ?_ _) | (with_reducible refine Kd.C_drewN ?_ _) | (with_reducible refine Kd.C_drew ?_))); (case side4 => exact (Kd.R_reads' HO272.out).2.1); (case side5 => repeat (first | exact (Kd.R_reads' HO275.out).2.2 | (with_reducible refine Kd.C_alloc ?_ _) | (with_reducible refine Kd.C_drewN ?_ _) | (with_reducible refine Kd.C_drew ?_))); (case side6 => exact (Kd.R_reads' HO275.out).2.1); (case side7 => repeat (first | exact (Kd.R_reads' HO278.out).2.2 | (with_reducible refine Kd.C_alloc ?_ _) | (with_reducible refine Kd.C_drewN ?_ _) | (with_reducible refine Kd.C_drew ?_))); (case side8 => exact (Kd.R_reads' HO278.out).2.1); rintro e w80 ⟨rfl, hb⟩; have n0_ := Aside0.mk (Kd.S_below (by (with_reducible repeat (first | apply Kd.S_alloc | apply Kd.S_drewN | apply Kd.S_drew)); exact HO269.out) hb); have n1_ := Aside0.mk (Kd.R_below (by (with_reducible repeat (first | apply Kd.R_alloc | apply Kd.R_drewN | apply Kd.R_drew)); exact HO272.out) hb); have n2_ := Aside0.mk (Kd.R_below (by (with_reducible repeat (first | apply Kd.R_alloc | apply Kd.R_drewN | apply Kd.R_drew)); exact HO275.out) hb); have n3_ := Aside0.mk (Kd.R_below (by (with_reducible repeat (first | apply Kd.R_alloc | apply Kd.R_drewN | apply Kd.R_drew)); exact HO278.out) hb); have n4_ := Aside0.mk (Kd.S_below (by (with_reducible repeat (first | apply Kd.S_alloc | apply Kd.S_drewN | apply Kd.S_drew)); exact HO285.out) hb); have n5_ := Aside0.mk (Kd.R_below (by (with_reducible repeat (first | apply Kd.R_alloc | apply Kd.R_drewN | apply Kd.R_drew)); exact HO288.out) hb); have n6_ := Aside0.mk (Kd.R_below (by (with_reducible repeat (first | apply Kd.R_alloc | apply Kd.R_drewN | apply Kd.R_drew)); exact HO291.out) hb); have n7_ := Aside0.mk (Kd.R_below (by (with_reducible repeat (first | apply Kd.R_alloc | apply Kd.R_drewN | apply Kd.R_drew)); exact HO294.out) hb); have n8_ := Bb BK282 hb; have n9_ := Bb BK298 hb; have n10_ := Bs hb; clear HO269; clear HO272; clear HO275; clear HO278; clear HO285; clear HO288; clear HO291; clear HO294; clear BK282; clear BK298; clear HB; have HO269 := n0_; have HO272 := n1_; have HO275 := n2_; have HO278 := n3_; have HO285 := n4_; have HO288 := n5_; have HO291 := n6_; have HO294 := n7_; have BK282 := n8_; have BK298 := n9_; have HB := n10_; clear n0_ n1_ n2_ n3_ n4_ n5_ n6_ n7_ n8_ n9_ n10_; (try clear hb); (try clear hb2); (try clear hk); (try clear hi); obtain ⟨hcz81_0, hcz81_1, hcz81_2, hcz81_3, hcz81_4, hfz81_0, hfz81_1, hfz81_2, hfz81_3, hfz81_4⟩ := cells5 BK282) | (go_at_call 18; (with_reducible refine (policy_Attr.calls k _ _ t267 _ _ t270 _ _ t273 _ _ t276 t279 (⟨#[97]⟩ : ByteArray) (⟨#[104, 114, 101, 102]⟩ : ByteArray) (⟨#[104, 116, 116, 112, 58, 120]⟩ : ByteArray) false _ ?side1 ?side2 ?side3 ?side4 ?side5 ?side6 ?side7 ?side8 A32.out).mono ?_); (case side1 => repeat (first | exact (Kd.S_reads' HO269.out).2.2 | (with_reducible refine Kd.C_alloc ?_ _) | (with_reducible refine Kd.C_drewN ?_ _) | (with_reducible refine Kd.C_drew ?_))); (case side2 => exact (Kd.S_reads' HO269.out).2.1); (case side3 => repeat (first | exact (Kd.R_reads' HO272.out).2.2 | (with_reducible refine Kd.C_alloc ?_ _) | (with_reducible refine Kd.C_drewN ?_ _) | (with_reducible refine Kd.C_drew ?_))); (case side4 => exact (Kd.R_reads' HO272.out).2.1); (case side5 => repeat (first | exact (Kd.R_reads' HO275.out).2.2 | (with_reducible refine Kd.C_alloc ?_ _) | (with_reducible refine Kd.C_drewN ?_ _) | (with_reducible refine Kd.C_drew ?_))); (case side6 => exact (Kd.R_reads' HO275.out).2.1); (case side7 => repeat (first | exact (Kd.R_reads' HO278.out).2.2 | (with_reducible refine Kd.C_alloc ?_ _) | (with_reducible refine Kd.C_drewN ?_ _) | (with_reducible refine Kd.C_drew ?_))); (case side8 => exact (Kd.R_reads' HO278.out).2.1); rintro e w82 ⟨rfl, hb⟩; have n0_ := Aside0.mk (Kd.S_below (by (with_reducible repeat (first | apply Kd.S_alloc | apply Kd.S_drewN | apply Kd.S_drew)); exact HO269.out) hb); have n1_ := Aside0.mk (Kd.R_below (by (with_reducible repeat (first | apply Kd.R_alloc | apply Kd.R_drewN | apply Kd.R_drew)); exact HO272.out) hb); have n2_ := Aside0.mk (Kd.R_below (by (with_reducible repeat (first | apply Kd.R_alloc | apply Kd.R_drewN | apply Kd.R_drew)); exact HO275.out) hb); have n3_ := Aside0.mk (Kd.R_below (by (with_reducible repeat (first | apply Kd.R_alloc | apply Kd.R_drewN | apply Kd.R_drew)); exact HO278.out) hb); have n4_ := Aside0.mk (Kd.S_below (by (with_reducible repeat (first | apply Kd.S_alloc | apply Kd.S_drewN | apply Kd.S_drew)); exact HO285.out) hb); have n5_ := Aside0.mk (Kd.R_below (by (with_reducible repeat (first | apply Kd.R_alloc | apply Kd.R_drewN | apply Kd.R_drew)); exact HO288.out) hb); have n6_ := Aside0.mk (Kd.R_below (by (with_reducible repeat (first | apply Kd.R_alloc | apply Kd.R_drewN | apply Kd.R_drew)); exact HO291.out) hb); have n7_ := Aside0.mk (Kd.R_below (by (with_reducible repeat (first | apply Kd.R_alloc | apply Kd.R_drewN | apply Kd.R_drew)); exact HO294.out) hb); have n8_ := Bb BK282 hb; have n9_ := Bb BK298 hb; have n10_ := Bs hb; clear HO269; clear HO272; clear HO275; clear HO278; clear HO285; clear HO288; clear HO291; clear HO294; clear BK282; clear BK298; clear HB; have HO269 := n0_; have HO272 := n1_; have HO275 := n2_; have HO278 := n3_; have HO285 := n4_; have HO288 := n5_; have HO291 := n6_; have HO294 := n7_; have BK282 := n8_; have BK298 := n9_; have HB := n10_; clear n0_ n1_ n2_ n3_ n4_ n5_ n6_ n7_ n8_ n9_ n10_; (try clear hb); (try clear hb2); (try clear hk); (try clear hi); obtain ⟨hcz83_0, hcz83_1, hcz83_2, hcz83_3, hcz83_4, hfz83_0, hfz83_1, hfz83_2, hfz83_3, hfz83_4⟩ := cells5 BK282) | (go_at_call 11; (with_reducible refine (policy_Check.calls k _ _ t267 _ _ t270 _ _ t273 _ _ t276 t279 t303 _ ?side1 ?side2 ?side3 ?side4 ?side5 ?side6 ?side7 ?side8 A57.out).mono ?_); (case side1 => repeat (first | exact (Kd.S_reads' HO269.out).2.2 | (with_reducible refine Kd.C_alloc ?_ _) | (with_reducible refine Kd.C_drewN ?_ _) | (with_reducible refine Kd.C_drew ?_))); (case side2 => exact (Kd.S_reads' HO269.out).2.1); (case side3 => repeat (first | exact (Kd.R_reads' HO272.out).2.2 | (with_reducible refine Kd.C_alloc ?_ _) | (with_reducible refine Kd.C_drewN ?_ _) | (with_reducible refine Kd.C_drew ?_))); (case side4 => exact (Kd.R_reads' HO272.out).2.1); (case side5 => repeat (first | exact (Kd.R_reads' HO275.out).2.2 | (with_reducible refine Kd.C_alloc ?_ _) | (with_reducible refine Kd.C_drewN ?_ _) | (with_reducible refine Kd.C_drew ?_))); (case side6 => exact (Kd.R_reads' HO275.out).2.1); (case side7 => repeat (first | exact (Kd.R_reads' HO278.out).2.2 | (with_reducible refine Kd.C_alloc ?_ _) | (with_reducible refine Kd.C_drewN ?_ _) | (with_reducible refine Kd.C_drew ?_))); (case side8 => exact (Kd.R_reads' HO278.out).2.1); rintro e w84 ⟨rfl, hb⟩; have n0_ := Aside0.mk (Kd.S_below (by (with_reducible repeat (first | apply Kd.S_alloc | apply Kd.S_drewN | apply Kd.S_drew)); exact HO269.out) hb); have n1_ := Aside0.mk (Kd.R_below (by (with_reducible repeat (first | apply Kd.R_alloc | apply Kd.R_drewN | apply Kd.R_drew)); exact HO272.out) hb); have n2_ := Aside0.mk (Kd.R_below (by (with_reducible repeat (first | apply Kd.R_alloc | apply Kd.R_drewN | apply Kd.R_drew)); exact HO275.out) hb); have n3_ := Aside0.mk (Kd.R_below (by (with_reducible repeat (first | apply Kd.R_alloc | apply Kd.R_drewN | apply Kd.R_drew)); exact HO278.out) hb); have n4_ := Aside0.mk (Kd.S_below (by (with_reducible repeat (first | apply Kd.S_alloc | apply Kd.S_drewN | apply Kd.S_drew)); exact HO285.out) hb); have n5_ := Aside0.mk (Kd.R_below (by (with_reducible repeat (first | apply Kd.R_alloc | apply Kd.R_drewN | apply Kd.R_drew)); exact HO288.out) hb); have n6_ := Aside0.mk (Kd.R_below (by (with_reducible repeat (first | apply Kd.R_alloc | apply Kd.R_drewN | apply Kd.R_drew)); exact HO291.out) hb); have n7_ := Aside0.mk (Kd.R_below (by (with_reducible repeat (first | apply Kd.R_alloc | apply Kd.R_drewN | apply Kd.R_drew)); exact HO294.out) hb); have n8_ := Bb BK282 hb; have n9_ := Bb BK298 hb; have n10_ := Bs hb; clear HO269; clear HO272; clear HO275; clear HO278; clear HO285; clear HO288; clear HO291; clear HO294; clear BK282; clear BK298; clear HB; have HO269 := n0_; have HO272 := n1_; have HO275 := n2_; have HO278 := n3_; have HO285 := n4_; have HO288 := n5_; have HO291 := n6_; have HO294 := n7_; have BK282 := n8_; have BK298 := n9_; have HB := n10_; clear n0_ n1_ n2_ n3_ n4_ n5_ n6_ n7_ n8_ n9_ n10_; (try clear hb); (try clear hb2); (try clear hk); (try clear hi); obtain ⟨hcz85_0, hcz85_1, hcz85_2, hcz85_3, hcz85_4, hfz85_0, hfz85_1, hfz85_2, hfz85_3, hfz85_4⟩ := cells5 BK282) | (go_at_call 21; (refine (policy_Allowed.calls k _ _ t267 _ _ t270 _ _ t273 _ _ t276 t279 _ _ ([] : List (S49)) t304 _ ?side1 ?side2 ?side3 ?side4 ?side5 ?side6 ?side7 ?side8 ?side9 ?side10 A59.out).mono ?_); (case side1 => repeat (first | exact (Kd.S_reads' HO269.out).2.2 | (with_reducible refine Kd.C_alloc ?_ _) | (with_reducible refine Kd.C_drewN ?_ _) | (with_reducible refine Kd.C_drew ?_))); (case side2 => exact (Kd.S_reads' HO269.out).2.1); (case side3 => repeat (first | exact (Kd.R_reads' HO272.out).2.2 | (with_reducible refine Kd.C_alloc ?_ _) | (with_reducible refine Kd.C_drewN ?_ _) | (with_reducible refine Kd.C_drew ?_))); (case side4 => exact (Kd.R_reads' HO272.out).2.1); (case side5 => repeat (first | exact (Kd.R_reads' HO275.out).2.2 | (with_reducible refine Kd.C_alloc ?_ _) | (with_reducible refine Kd.C_drewN ?_ _) | (with_reducible refine Kd.C_drew ?_))); (case side6 => exact (Kd.R_reads' HO275.out).2.1); (case side7 => repeat (first | exact (Kd.R_reads' HO278.out).2.2 | (with_reducible refine Kd.C_alloc ?_ _) | (with_reducible refine Kd.C_drewN ?_ _) | (with_reducible refine Kd.C_drew ?_))); (case side8 => exact (Kd.R_reads' HO278.out).2.1); (case side9 => exact Kd.C_nil _ _); (case side10 => exact Nat.le_refl _); rintro e w86 ⟨rfl, hb⟩; have n0_ := Aside0.mk (Kd.S_below (by (with_reducible repeat (first | apply Kd.S_alloc | apply Kd.S_drewN | apply Kd.S_drew)); exact HO269.out) hb); have n1_ := Aside0.mk (Kd.R_below (by (with_reducible repeat (first | apply Kd.R_alloc | apply Kd.R_drewN | apply Kd.R_drew)); exact HO272.out) hb); have n2_ := Aside0.mk (Kd.R_below (by (with_reducible repeat (first | apply Kd.R_alloc | apply Kd.R_drewN | apply Kd.R_drew)); exact HO275.out) hb); have n3_ := Aside0.mk (Kd.R_below (by (with_reducible repeat (first | apply Kd.R_alloc | apply Kd.R_drewN | apply Kd.R_drew)); exact HO278.out) hb); have n4_ := Aside0.mk (Kd.S_below (by (with_reducible repeat (first | apply Kd.S_alloc | apply Kd.S_drewN | apply Kd.S_drew)); exact HO285.out) hb); have n5_ := Aside0.mk (Kd.R_below (by (with_reducible repeat (first | apply Kd.R_alloc | apply Kd.R_drewN | apply Kd.R_drew)); exact HO288.out) hb); have n6_ := Aside0.mk (Kd.R_below (by (with_reducible repeat (first | apply Kd.R_alloc | apply Kd.R_drewN | apply Kd.R_drew)); exact HO291.out) hb); have n7_ := Aside0.mk (Kd.R_below (by (with_reducible repeat (first | apply Kd.R_alloc | apply Kd.R_drewN | apply Kd.R_drew)); exact HO294.out) hb); have n8_ := Bb BK282 hb; have n9_ := Bb BK298 hb; have n10_ := Bs hb; clear HO269; clear HO272; clear HO275; clear HO278; clear HO285; clear HO288; clear HO291; clear HO294; clear BK282; clear BK298; clear HB; have HO269 := n0_; have HO272 := n1_; have HO275 := n2_; have HO278 := n3_; have HO285 := n4_; have HO288 := n5_; have HO291 := n6_; have HO294 := n7_; have BK282 := n8_; have BK298 := n9_; have HB := n10_; clear n0_ n1_ n2_ n3_ n4_ n5_ n6_ n7_ n8_ n9_ n10_; (try clear hb); (try clear hb2); (try clear hk); (try clear hi)))
        go_ret
        exact ⟨Re, Bw⟩
       rw [if_neg c58] at H
       have c58b0 : (t303 == 0) = false := beq_eq_false_iff_ne.mpr c58
       have c58b1 : (t303 != 0) = true := bne_iff_ne.mpr c58
       exact absurd H (by simp)
      replace c31 := Bool.eq_false_iff.mpr c31
      subst c31
      have H1 : (some false) = some true := by rw [if_neg (show ¬ (false = true) by decide)] at H; exact H
      clear H
      have H := H1
      clear H1
      exact absurd H (by simp)
     replace c8 := Bool.eq_false_iff.mpr c8
     subst c8
     have H1 : (some false) = some true := by rw [if_neg (show ¬ (false = true) by decide)] at H; exact H
     clear H
     have H := H1
     clear H1
     exact absurd H (by simp)
    rw [if_neg c6] at H
    have c6b0 : (t297 == 7) = false := beq_eq_false_iff_ne.mpr c6
    have c6b1 : (t297 != 7) = true := bne_iff_ne.mpr c6
    exact absurd H (by simp)
   rw [if_neg c5] at H
   have c5b0 : (t296 == 3) = false := beq_eq_false_iff_ne.mpr c5
   have c5b1 : (t296 != 3) = true := bne_iff_ne.mpr c5
   exact absurd H (by simp)
  rw [if_neg c4] at H
  have c4b0 : (t281 == 0) = false := beq_eq_false_iff_ne.mpr c4
  have c4b1 : (t281 != 0) = true := bne_iff_ne.mpr c4
  exact absurd H (by simp)
 rw [if_neg c3] at H
 have c3b0 : (t280 == 0) = false := beq_eq_false_iff_ne.mpr c3
 have c3b1 : (t280 != 0) = true := bne_iff_ne.mpr c3
 exact absurd H (by simp)

noncomputable def marginalialaw11_alive.f (k : Nat) : Option (Bool) := if marginalialaw11_alive0.f k = some true then some true else none
theorem marginalialaw11_alive.mono : ∀ k, LeO (marginalialaw11_alive.f k) (marginalialaw11_alive.f (k + 1)) := by
  intro k r h
  unfold marginalialaw11_alive.f at h ⊢
  split at h
  · next h1 => rw [if_pos (marginalialaw11_alive0.mono k _ h1)]; exact h
  · simp at h
theorem marginalialaw11_alive.calls (k : Nat) (r : Bool) (w : World) (m_ : Int) (hm_ : w.cell? ⟨0, 0, none⟩ = some (.int .i64 m_)) (h : marginalialaw11_alive.f k = some r) :
    Calls Tryd.prog 10 #[] w fun e w' => e = .returned (.bool r) ∧ Below w.heap.size w w' := by
  unfold marginalialaw11_alive.f at h
  split at h
  · next h1 =>
    obtain rfl := Option.some.inj h
    exact marginalialaw11_alive0.calls k w m_ hm_ h1
  · simp at h



mutual
noncomputable def marginalialaw11_PolicyNever.j0 : Nat → ByteArray → Bool → List (S53) → List ByteArray → List ByteArray → List ByteArray → Int → ByteArray → ByteArray → Option (Bool)
  | 0, _, _, _, _, _, _, _, _, _ => none
  | k + 1, x1, x30, x433000, x433001, x433002, x433003, x433004, x434000, x434001 => if x30 = true then ((marginalialaw11_alive.f k).bind fun t435 => (some t435)) else ((policy_Attr.f k x433000 x433001 x433002 x433003 x433004 x1 x434000 x434001).bind fun t436 => ((policy_Element.f k x433000 x433001 x433002 x433003 x433004 x1).bind fun t437 => (if t437 = true then ((kind_Is.f k 2 x1).bind fun t438 => (if t438 = true then (marginalialaw11_PolicyNever.j1 k t436 true x433000 x433001 x433002 x433003 x433004 x434000 x434001) else (if x1.toList = ([115, 118, 103] : List UInt8) then (marginalialaw11_PolicyNever.j1 k t436 true x433000 x433001 x433002 x433003 x433004 x434000 x434001) else (if x1.toList = ([109, 97, 116, 104] : List UInt8) then (marginalialaw11_PolicyNever.j1 k t436 true x433000 x433001 x433002 x433003 x433004 x434000 x434001) else (if x1.toList = ([112, 108, 97, 105, 110, 116, 101, 120, 116] : List UInt8) then (marginalialaw11_PolicyNever.j1 k t436 true x433000 x433001 x433002 x433003 x433004 x434000 x434001) else (if t436 = true then ((policy_Element.f k x433000 x433001 x433002 x433003 x433004 x1).bind fun t439 => (marginalialaw11_PolicyNever.j1 k t436 (!t439) x433000 x433001 x433002 x433003 x433004 x434000 x434001)) else (marginalialaw11_PolicyNever.j1 k t436 false x433000 x433001 x433002 x433003 x433004 x434000 x434001))))))) else (if t436 = true then ((policy_Element.f k x433000 x433001 x433002 x433003 x433004 x1).bind fun t440 => (marginalialaw11_PolicyNever.j1 k t436 (!t440) x433000 x433001 x433002 x433003 x433004 x434000 x434001)) else (marginalialaw11_PolicyNever.j1 k t436 false x433000 x433001 x433002 x433003 x433004 x434000 x434001)))))
noncomputable def marginalialaw11_PolicyNever.j1 : Nat → Bool → Bool → List (S53) → List ByteArray → List ByteArray → List ByteArray → Int → ByteArray → ByteArray → Option (Bool)
  | 0, _, _, _, _, _, _, _, _, _ => none
  | k + 1, x7, x63, x433000, x433001, x433002, x433003, x433004, x434000, x434001 => if x63 = true then (some false) else (if x7 = true then (if (x434000.size : Int) ≥ 2 then (if 0 < (x434000.size : Int) then (if (bt x434000 0) = 111 then (if 1 < (x434000.size : Int) then (marginalialaw11_PolicyNever.j2 k x7 ((bt x434000 1) == 110) x433000 x433001 x433002 x433003 x433004 x434000 x434001) else (none)) else (marginalialaw11_PolicyNever.j2 k x7 false x433000 x433001 x433002 x433003 x433004 x434000 x434001)) else (none)) else (marginalialaw11_PolicyNever.j2 k x7 false x433000 x433001 x433002 x433003 x433004 x434000 x434001)) else (marginalialaw11_PolicyNever.j2 k x7 false x433000 x433001 x433002 x433003 x433004 x434000 x434001))
noncomputable def marginalialaw11_PolicyNever.j2 : Nat → Bool → Bool → List (S53) → List ByteArray → List ByteArray → List ByteArray → Int → ByteArray → ByteArray → Option (Bool)
  | 0, _, _, _, _, _, _, _, _, _ => none
  | k + 1, x7, x82, x433000, x433001, x433002, x433003, x433004, x434000, x434001 => if x82 = true then (some false) else ((scheme_Of.f k x434001).bind fun bt441 => (marginalialaw11_PolicyNever.l0 k x7 bt441.1 bt441.2 0 x433000 x433001 x433002 x433003 x433004 x434000 x434001))
noncomputable def marginalialaw11_PolicyNever.l0 : Nat → Bool → ByteArray → Bool → Int → List (S53) → List ByteArray → List ByteArray → List ByteArray → Int → ByteArray → ByteArray → Option (Bool)
  | 0, _, _, _, _, _, _, _, _, _, _, _ => none
  | k + 1, x7, x8, x9, x10, x433000, x433001, x433002, x433003, x433004, x434000, x434001 => if x10 < (x433001.length : Int) then (if x7 = true then (if x9 = true then (if x8.toList = ([106, 97, 118, 97, 115, 99, 114, 105, 112, 116] : List UInt8) then (if 0 ≤ x10 then (if (rdOf ByteArray.empty x433001 x10).toList = x434000.toList then (some false) else (marginalialaw11_PolicyNever.l0 k x7 x8 x9 (wrap64 (x10 + 1)) x433000 x433001 x433002 x433003 x433004 x434000 x434001)) else (none)) else (marginalialaw11_PolicyNever.l0 k x7 x8 x9 (wrap64 (x10 + 1)) x433000 x433001 x433002 x433003 x433004 x434000 x434001)) else (marginalialaw11_PolicyNever.l0 k x7 x8 x9 (wrap64 (x10 + 1)) x433000 x433001 x433002 x433003 x433004 x434000 x434001)) else (marginalialaw11_PolicyNever.l0 k x7 x8 x9 (wrap64 (x10 + 1)) x433000 x433001 x433002 x433003 x433004 x434000 x434001)) else ((marginalialaw11_alive.f k).bind fun t444 => (some t444))
end
noncomputable def marginalialaw11_PolicyNever.f (k : Nat) (l0_0 : List (S53)) (l0_1 : List ByteArray) (l0_2 : List ByteArray) (l0_3 : List ByteArray) (a0_4 : Int) (a1 : ByteArray) (a2_0 : ByteArray) (a2_1 : ByteArray) : Option (Bool) := (marginaliaref11_Small.f k l0_0 l0_1 l0_2 l0_3 a0_4).bind fun t434 => (if t434 = true then (if (a1.size : Int) > 1000 then (marginalialaw11_PolicyNever.j0 k a1 true l0_0 l0_1 l0_2 l0_3 a0_4 a2_0 a2_1) else (if (a2_0.size : Int) > 1000 then (marginalialaw11_PolicyNever.j0 k a1 true l0_0 l0_1 l0_2 l0_3 a0_4 a2_0 a2_1) else (marginalialaw11_PolicyNever.j0 k a1 (decide ((a2_1.size : Int) > 1000)) l0_0 l0_1 l0_2 l0_3 a0_4 a2_0 a2_1))) else (marginalialaw11_PolicyNever.j0 k a1 true l0_0 l0_1 l0_2 l0_3 a0_4 a2_0 a2_1))
set_option maxHeartbeats 8000000 in
set_option maxRecDepth 100000 in
theorem marginalialaw11_PolicyNever.calls (k : Nat) (A0_0 : Option Addr) (c0_0 : Nat) (l0_0 : List (S53)) (A0_1 : Option Addr) (c0_1 : Nat) (l0_1 : List ByteArray) (A0_2 : Option Addr) (c0_2 : Nat) (l0_2 : List ByteArray) (A0_3 : Option Addr) (c0_3 : Nat) (l0_3 : List ByteArray) (a0_4 : Int) (a1 : ByteArray) (a2_0 : ByteArray) (a2_1 : ByteArray) (r : Bool) (w : World) (hr0_0 : Kd.C k53 w A0_0 l0_0.length l0_0) (hc0_0 : l0_0.length ≤ c0_0) (hr0_1 : Kd.C Kd.string w A0_1 l0_1.length l0_1) (hc0_1 : l0_1.length ≤ c0_1) (hr0_2 : Kd.C Kd.string w A0_2 l0_2.length l0_2) (hc0_2 : l0_2.length ≤ c0_2) (hr0_3 : Kd.C Kd.string w A0_3 l0_3.length l0_3) (hc0_3 : l0_3.length ≤ c0_3) (m_ : Int) (hm_ : w.cell? ⟨0, 0, none⟩ = some (.int .i64 m_)) (h : marginalialaw11_PolicyNever.f k l0_0 l0_1 l0_2 l0_3 a0_4 a1 a2_0 a2_1 = some r) :
  Calls Tryd.prog 7 #[.agg #[.slice A0_0 l0_0.length c0_0, .slice A0_1 l0_1.length c0_1, .slice A0_2 l0_2.length c0_2, .slice A0_3 l0_3.length c0_3, .int .i64 a0_4], .string a1, .agg #[.string a2_0, .string a2_1]] w fun e w' => e = .returned (.bool r) ∧ Below w.heap.size w w' := by
 have HM := Aside0.mk hm_
 clear hm_
 have hu25 := Tryd.underlying25
 have hu35 := Tryd.underlying35
 have HR0_0 := Aside0.mk hr0_0
 have HC0_0 := Aside0.mk hc0_0
 clear hr0_0 hc0_0
 have HR0_1 := Aside0.mk hr0_1
 have HC0_1 := Aside0.mk hc0_1
 clear hr0_1 hc0_1
 have HR0_2 := Aside0.mk hr0_2
 have HC0_2 := Aside0.mk hc0_2
 clear hr0_2 hc0_2
 have HR0_3 := Aside0.mk hr0_3
 have HC0_3 := Aside0.mk hc0_3
 clear hr0_3 hc0_3
 have HB := Aside0.mk (Below.refl w.heap.size w)
 have H := h
 clear h
 unfold marginalialaw11_PolicyNever.f at H
 have HC4 := Aside0.mk H
 clear H
 go_enter Tryd.func7, Tryd.ntmps7
 go_upto_region 1 with (first | ((with_reducible refine gate_dst (N := 3) rfl ?_); (try (refine gate_guard (by rfl) ?_; dsimp only)); refine box5 25 3 (cs := #[.slice A0_0 l0_0.length c0_0, .slice A0_1 l0_1.length c0_1, .slice A0_2 l0_2.length c0_2, .slice A0_3 l0_3.length c0_3, .int .i64 a0_4]) ?_; clear HB; intro gb432 w5 HB BK432 GE432) | ((with_reducible refine gate_dst (N := 5) rfl ?_); (try (refine gate_guard (by rfl) ?_; dsimp only)); refine box_event ?hg (N := 5) ?hd (cs := #[.string a2_0, .string a2_1]) (t := 35) ?hr ?_; (case hd => rfl); (case hg => rfl); (case hr => first | (go_simp; done) | (go_simp; rfl)); intro gb433 hg w6 hbox hb; have n0_ := Bb BK432 hb; have n1_ := Bs hb; have n2_ := Aside0.mk (hbox); have n3_ := Aside0.mk (Gg hg); have n4_ := Aside0.mk (Gg hg); have n5_ := Aside0.mk ((by rw [hg]; exact Nat.ne_of_lt (blk_lt (g := gb432) (o := .cells #[.slice A0_0 l0_0.length c0_0, .slice A0_1 l0_1.length c0_1, .slice A0_2 l0_2.length c0_2, .slice A0_3 l0_3.length c0_3, .int .i64 a0_4] 25 (0, 0)) (Bk BK432)) : gb432 ≠ gb433)); have n6_ := Aside0.mk ((by rw [hg]; exact Nat.ne_of_gt (blk_lt (g := gb432) (o := .cells #[.slice A0_0 l0_0.length c0_0, .slice A0_1 l0_1.length c0_1, .slice A0_2 l0_2.length c0_2, .slice A0_3 l0_3.length c0_3, .int .i64 a0_4] 25 (0, 0)) (Bk BK432)) : gb433 ≠ gb432)); clear BK432; clear HB; have BK432 := n0_; have HB := n1_; have BK433 := n2_; have GW433 := n3_; have GE433 := n4_; have NB432_433 := n5_; have NB433_432 := n6_; clear n0_ n1_ n2_ n3_ n4_ n5_ n6_; clear hb hbox hg))
 repeat (go_quiet (first | ((with_reducible refine gate_dst (N := 3) rfl ?_); (try (refine gate_guard (by rfl) ?_; dsimp only)); refine box5 25 3 (cs := #[.slice A0_0 l0_0.length c0_0, .slice A0_1 l0_1.length c0_1, .slice A0_2 l0_2.length c0_2, .slice A0_3 l0_3.length c0_3, .int .i64 a0_4]) ?_; clear HB; intro gb432 w5 HB BK432 GE432) | ((with_reducible refine gate_dst (N := 5) rfl ?_); (try (refine gate_guard (by rfl) ?_; dsimp only)); refine box_event ?hg (N := 5) ?hd (cs := #[.string a2_0, .string a2_1]) (t := 35) ?hr ?_; (case hd => rfl); (case hg => rfl); (case hr => first | (go_simp; done) | (go_simp; rfl)); intro gb433 hg w6 hbox hb; have n0_ := Bb BK432 hb; have n1_ := Bs hb; have n2_ := Aside0.mk (hbox); have n3_ := Aside0.mk (Gg hg); have n4_ := Aside0.mk (Gg hg); have n5_ := Aside0.mk ((by rw [hg]; exact Nat.ne_of_lt (blk_lt (g := gb432) (o := .cells #[.slice A0_0 l0_0.length c0_0, .slice A0_1 l0_1.length c0_1, .slice A0_2 l0_2.length c0_2, .slice A0_3 l0_3.length c0_3, .int .i64 a0_4] 25 (0, 0)) (Bk BK432)) : gb432 ≠ gb433)); have n6_ := Aside0.mk ((by rw [hg]; exact Nat.ne_of_gt (blk_lt (g := gb432) (o := .cells #[.slice A0_0 l0_0.length c0_0, .slice A0_1 l0_1.length c0_1, .slice A0_2 l0_2.length c0_2, .slice A0_3 l0_3.length c0_3, .int .i64 a0_4] 25 (0, 0)) (Bk BK432)) : gb433 ≠ gb432)); clear BK432; clear HB; have BK432 := n0_; have HB := n1_; have BK433 := n2_; have GW433 := n3_; have GE433 := n4_; have NB432_433 := n5_; have NB433_432 := n6_; clear n0_ n1_ n2_ n3_ n4_ n5_ n6_; clear hb hbox hg)); go_upto_region 1 with (first | ((with_reducible refine gate_dst (N := 3) rfl ?_); (try (refine gate_guard (by rfl) ?_; dsimp only)); refine box5 25 3 (cs := #[.slice A0_0 l0_0.length c0_0, .slice A0_1 l0_1.length c0_1, .slice A0_2 l0_2.length c0_2, .slice A0_3 l0_3.length c0_3, .int .i64 a0_4]) ?_; clear HB; intro gb432 w5 HB BK432 GE432) | ((with_reducible refine gate_dst (N := 5) rfl ?_); (try (refine gate_guard (by rfl) ?_; dsimp only)); refine box_event ?hg (N := 5) ?hd (cs := #[.string a2_0, .string a2_1]) (t := 35) ?hr ?_; (case hd => rfl); (case hg => rfl); (case hr => first | (go_simp; done) | (go_simp; rfl)); intro gb433 hg w6 hbox hb; have n0_ := Bb BK432 hb; have n1_ := Bs hb; have n2_ := Aside0.mk (hbox); have n3_ := Aside0.mk (Gg hg); have n4_ := Aside0.mk (Gg hg); have n5_ := Aside0.mk ((by rw [hg]; exact Nat.ne_of_lt (blk_lt (g := gb432) (o := .cells #[.slice A0_0 l0_0.length c0_0, .slice A0_1 l0_1.length c0_1, .slice A0_2 l0_2.length c0_2, .slice A0_3 l0_3.length c0_3, .int .i64 a0_4] 25 (0, 0)) (Bk BK432)) : gb432 ≠ gb433)); have n6_ := Aside0.mk ((by rw [hg]; exact Nat.ne_of_gt (blk_lt (g := gb432) (o := .cells #[.slice A0_0 l0_0.length c0_0, .slice A0_1 l0_1.length c0_1, .slice A0_2 l0_2.length c0_2, .slice A0_3 l0_3.length c0_3, .int .i64 a0_4] 25 (0, 0)) (Bk BK432)) : gb433 ≠ gb432)); clear BK432; clear HB; have BK432 := n0_; have HB := n1_; have BK433 := n2_; have GW433 := n3_; have GE433 := n4_; have NB432_433 := n5_; have NB433_432 := n6_; clear n0_ n1_ n2_ n3_ n4_ n5_ n6_; clear hb hbox hg)))
 (try simp only [Act.put, List.setIfInBounds_toArray, List.set_cons_zero, List.set_cons_succ])
 go_cut [30] (fun v30 wc => ∃ (kq : Nat) (x30_3 : Bool), v30 = .bool x30_3 ∧ Aside0 (marginalialaw11_PolicyNever.j0 kq a1 x30_3 l0_0 l0_1 l0_2 l0_3 a0_4 a2_0 a2_1 = some r) ∧ Aside0 (kq ≤ k) ∧ Aside0 (wc.heap[gb432]? = some (.cells #[(.slice A0_0 l0_0.length c0_0), (.slice A0_1 l0_1.length c0_1), (.slice A0_2 l0_2.length c0_2), (.slice A0_3 l0_3.length c0_3), .int .i64 a0_4] 25 (0, 0))) ∧ Aside0 (wc.heap[gb433]? = some (.cells #[.string a2_0, .string a2_1] 35 (0, 0))) ∧ Aside0 (Below w.heap.size w wc))
 case first =>
  have H := HC4.out
  clear HC4
  replace H := Option.bind_eq_some_iff.mp H
  obtain ⟨t434, A70, H⟩ := H
  try dsimp -simprocs only at H
  have A7 := Aside0.mk A70
  clear A70
  by_cases c8 : t434 = true
  ·subst c8
   rw [if_pos rfl] at H
   by_cases c9 : (a1.size : Int) > 1000
   ·rw [if_pos c9] at H
    have c9b0 : decide (1000 < (a1.size : Int)) = true := decide_eq_true c9
    have c9b1 : decide (1000 < a1.size) = true := decide_eq_true (by omega)
    clear c9
    (first | rw [c9b0] | (simp only [i64_w, i32_w]; rw [c9b0]) | skip)
    have H' := Aside0.mk H
    clear H
    have hnb10 := NB432_433.out
    have hnc10 := NB433_432.out
    obtain ⟨hcz11_0, hcz11_1, hcz11_2, hcz11_3, hcz11_4, hfz11_0, hfz11_1, hfz11_2, hfz11_3, hfz11_4⟩ := cells5 BK432
    go_wp2_with (first | (go_at_call 9; (with_reducible refine (marginaliaref11_Small.calls k _ _ l0_0 _ _ l0_1 _ _ l0_2 _ _ l0_3 a0_4 true _ (Cs HR0_0) HC0_0.out (Cs HR0_1) HC0_1.out (Cs HR0_2) HC0_2.out (Cs HR0_3) HC0_3.out A7.out).mono ?_); rintro e w12 ⟨rfl, hb⟩; replace BK432 := Bb BK432 hb; replace BK433 := Bb BK433 hb; replace HB := Bs hb; clear hb))
    repeat (go_quiet (first | (go_at_call 9; (with_reducible refine (marginaliaref11_Small.calls k _ _ l0_0 _ _ l0_1 _ _ l0_2 _ _ l0_3 a0_4 true _ (Cs HR0_0) HC0_0.out (Cs HR0_1) HC0_1.out (Cs HR0_2) HC0_2.out (Cs HR0_3) HC0_3.out A7.out).mono ?_); rintro e w12 ⟨rfl, hb⟩; replace BK432 := Bb BK432 hb; replace BK433 := Bb BK433 hb; replace HB := Bs hb; clear hb)); try go_wp2_with (first | (go_at_call 9; (with_reducible refine (marginaliaref11_Small.calls k _ _ l0_0 _ _ l0_1 _ _ l0_2 _ _ l0_3 a0_4 true _ (Cs HR0_0) HC0_0.out (Cs HR0_1) HC0_1.out (Cs HR0_2) HC0_2.out (Cs HR0_3) HC0_3.out A7.out).mono ?_); rintro e w12 ⟨rfl, hb⟩; replace BK432 := Bb BK432 hb; replace BK433 := Bb BK433 hb; replace HB := Bs hb; clear hb)))
    go_meet
    case rel => exact ⟨_, (true), Rs, H', ⟨On⟩, ⟨(Bk BK432)⟩, ⟨(Bk BK433)⟩, ⟨Bw⟩⟩
   rw [if_neg c9] at H
   have c9b0 : decide (1000 < (a1.size : Int)) = false := decide_eq_false c9
   have c9b1 : decide (1000 < a1.size) = false := decide_eq_false (by omega)
   clear c9
   (first | rw [c9b0] | (simp only [i64_w, i32_w]; rw [c9b0]) | skip)
   by_cases c13 : (a2_0.size : Int) > 1000
   ·rw [if_pos c13] at H
    have c13b0 : decide (1000 < (a2_0.size : Int)) = true := decide_eq_true c13
    have c13b1 : decide (1000 < a2_0.size) = true := decide_eq_true (by omega)
    clear c13
    have H' := Aside0.mk H
    clear H
    have hnb14 := NB432_433.out
    have hnc14 := NB433_432.out
    obtain ⟨hcz15_0, hcz15_1, hcz15_2, hcz15_3, hcz15_4, hfz15_0, hfz15_1, hfz15_2, hfz15_3, hfz15_4⟩ := cells5 BK432
    go_wp2_with (first | (go_at_call 9; (with_reducible refine (marginaliaref11_Small.calls k _ _ l0_0 _ _ l0_1 _ _ l0_2 _ _ l0_3 a0_4 true _ (Cs HR0_0) HC0_0.out (Cs HR0_1) HC0_1.out (Cs HR0_2) HC0_2.out (Cs HR0_3) HC0_3.out A7.out).mono ?_); rintro e w16 ⟨rfl, hb⟩; replace BK432 := Bb BK432 hb; replace BK433 := Bb BK433 hb; replace HB := Bs hb; clear hb; obtain ⟨hcz17_0, hcz17_1, hfz17_0, hfz17_1⟩ := cells2 BK433))
    repeat (go_quiet (first | (go_at_call 9; (with_reducible refine (marginaliaref11_Small.calls k _ _ l0_0 _ _ l0_1 _ _ l0_2 _ _ l0_3 a0_4 true _ (Cs HR0_0) HC0_0.out (Cs HR0_1) HC0_1.out (Cs HR0_2) HC0_2.out (Cs HR0_3) HC0_3.out A7.out).mono ?_); rintro e w16 ⟨rfl, hb⟩; replace BK432 := Bb BK432 hb; replace BK433 := Bb BK433 hb; replace HB := Bs hb; clear hb; obtain ⟨hcz17_0, hcz17_1, hfz17_0, hfz17_1⟩ := cells2 BK433)); try go_wp2_with (first | (go_at_call 9; (with_reducible refine (marginaliaref11_Small.calls k _ _ l0_0 _ _ l0_1 _ _ l0_2 _ _ l0_3 a0_4 true _ (Cs HR0_0) HC0_0.out (Cs HR0_1) HC0_1.out (Cs HR0_2) HC0_2.out (Cs HR0_3) HC0_3.out A7.out).mono ?_); rintro e w16 ⟨rfl, hb⟩; replace BK432 := Bb BK432 hb; replace BK433 := Bb BK433 hb; replace HB := Bs hb; clear hb; obtain ⟨hcz17_0, hcz17_1, hfz17_0, hfz17_1⟩ := cells2 BK433)))
    go_meet
    case rel => exact ⟨_, (true), Rs, H', ⟨On⟩, ⟨(Bk BK432)⟩, ⟨(Bk BK433)⟩, ⟨Bw⟩⟩
   rw [if_neg c13] at H
   have c13b0 : decide (1000 < (a2_0.size : Int)) = false := decide_eq_false c13
   have c13b1 : decide (1000 < a2_0.size) = false := decide_eq_false (by omega)
   clear c13
   have H' := Aside0.mk H
   clear H
   have hnb18 := NB432_433.out
   have hnc18 := NB433_432.out
   obtain ⟨hcz19_0, hcz19_1, hcz19_2, hcz19_3, hcz19_4, hfz19_0, hfz19_1, hfz19_2, hfz19_3, hfz19_4⟩ := cells5 BK432
   go_wp2_with (first | (go_at_call 9; (with_reducible refine (marginaliaref11_Small.calls k _ _ l0_0 _ _ l0_1 _ _ l0_2 _ _ l0_3 a0_4 true _ (Cs HR0_0) HC0_0.out (Cs HR0_1) HC0_1.out (Cs HR0_2) HC0_2.out (Cs HR0_3) HC0_3.out A7.out).mono ?_); rintro e w20 ⟨rfl, hb⟩; replace BK432 := Bb BK432 hb; replace BK433 := Bb BK433 hb; replace HB := Bs hb; clear hb; obtain ⟨hcz21_0, hcz21_1, hfz21_0, hfz21_1⟩ := cells2 BK433))
   repeat (go_quiet (first | (go_at_call 9; (with_reducible refine (marginaliaref11_Small.calls k _ _ l0_0 _ _ l0_1 _ _ l0_2 _ _ l0_3 a0_4 true _ (Cs HR0_0) HC0_0.out (Cs HR0_1) HC0_1.out (Cs HR0_2) HC0_2.out (Cs HR0_3) HC0_3.out A7.out).mono ?_); rintro e w20 ⟨rfl, hb⟩; replace BK432 := Bb BK432 hb; replace BK433 := Bb BK433 hb; replace HB := Bs hb; clear hb; obtain ⟨hcz21_0, hcz21_1, hfz21_0, hfz21_1⟩ := cells2 BK433)); try go_wp2_with (first | (go_at_call 9; (with_reducible refine (marginaliaref11_Small.calls k _ _ l0_0 _ _ l0_1 _ _ l0_2 _ _ l0_3 a0_4 true _ (Cs HR0_0) HC0_0.out (Cs HR0_1) HC0_1.out (Cs HR0_2) HC0_2.out (Cs HR0_3) HC0_3.out A7.out).mono ?_); rintro e w20 ⟨rfl, hb⟩; replace BK432 := Bb BK432 hb; replace BK433 := Bb BK433 hb; replace HB := Bs hb; clear hb; obtain ⟨hcz21_0, hcz21_1, hfz21_0, hfz21_1⟩ := cells2 BK433)))
   go_meet
   case rel => exact ⟨_, (decide ((a2_1.size : Int) > 1000)), Rs, H', ⟨On⟩, ⟨(Bk BK432)⟩, ⟨(Bk BK433)⟩, ⟨Bw⟩⟩
  replace c8 := Bool.eq_false_iff.mpr c8
  subst c8
  rw [if_neg (show ¬ (false = true) by decide)] at H
  have H' := Aside0.mk H
  clear H
  have hnb22 := NB432_433.out
  have hnc22 := NB433_432.out
  obtain ⟨hcz23_0, hcz23_1, hcz23_2, hcz23_3, hcz23_4, hfz23_0, hfz23_1, hfz23_2, hfz23_3, hfz23_4⟩ := cells5 BK432
  go_wp2_with (first | (go_at_call 9; (with_reducible refine (marginaliaref11_Small.calls k _ _ l0_0 _ _ l0_1 _ _ l0_2 _ _ l0_3 a0_4 false _ (Cs HR0_0) HC0_0.out (Cs HR0_1) HC0_1.out (Cs HR0_2) HC0_2.out (Cs HR0_3) HC0_3.out A7.out).mono ?_); rintro e w24 ⟨rfl, hb⟩; replace BK432 := Bb BK432 hb; replace BK433 := Bb BK433 hb; replace HB := Bs hb; clear hb))
  repeat (go_quiet (first | (go_at_call 9; (with_reducible refine (marginaliaref11_Small.calls k _ _ l0_0 _ _ l0_1 _ _ l0_2 _ _ l0_3 a0_4 false _ (Cs HR0_0) HC0_0.out (Cs HR0_1) HC0_1.out (Cs HR0_2) HC0_2.out (Cs HR0_3) HC0_3.out A7.out).mono ?_); rintro e w24 ⟨rfl, hb⟩; replace BK432 := Bb BK432 hb; replace BK433 := Bb BK433 hb; replace HB := Bs hb; clear hb)); try go_wp2_with (first | (go_at_call 9; (with_reducible refine (marginaliaref11_Small.calls k _ _ l0_0 _ _ l0_1 _ _ l0_2 _ _ l0_3 a0_4 false _ (Cs HR0_0) HC0_0.out (Cs HR0_1) HC0_1.out (Cs HR0_2) HC0_2.out (Cs HR0_3) HC0_3.out A7.out).mono ?_); rintro e w24 ⟨rfl, hb⟩; replace BK432 := Bb BK432 hb; replace BK433 := Bb BK433 hb; replace HB := Bs hb; clear hb)))
  go_meet
  case rel => exact ⟨_, (true), Rs, H', ⟨On⟩, ⟨(Bk BK432)⟩, ⟨(Bk BK433)⟩, ⟨Bw⟩⟩
 case rest =>
  clear HC4
  try clear c1
  try clear c2
  try clear p2
  try clear c7
  try clear c8
  try clear c9
  try clear c9b0
  try clear c9b1
  try clear c10
  try clear c13
  try clear c13b0
  try clear c13b1
  try clear c14
  try clear c18
  try clear c22
  try clear hcz11_0 hcz11_1 hcz11_2 hcz11_3 hcz11_4
  try clear hcz15_0 hcz15_1 hcz15_2 hcz15_3 hcz15_4
  try clear hcz17_0 hcz17_1
  try clear hcz19_0 hcz19_1 hcz19_2 hcz19_3 hcz19_4
  try clear hcz21_0 hcz21_1
  try clear hcz23_0 hcz23_1 hcz23_2 hcz23_3 hcz23_4
  try clear hfz11_0 hfz11_1 hfz11_2 hfz11_3 hfz11_4
  try clear hfz15_0 hfz15_1 hfz15_2 hfz15_3 hfz15_4
  try clear hfz17_0 hfz17_1
  try clear hfz19_0 hfz19_1 hfz19_2 hfz19_3 hfz19_4
  try clear hfz21_0 hfz21_1
  try clear hfz23_0 hfz23_1 hfz23_2 hfz23_3 hfz23_4
  obtain ⟨kq, x30_3, rfl, HA, HJ3, BK432, BK433, HB⟩ := hcut
  cases kq with
  | zero => exact absurd HA.out (by simp [marginalialaw11_PolicyNever.j0])
  | succ kj3 =>
   have H := HA.out
   clear HA
   simp only [marginalialaw11_PolicyNever.j0] at H
   by_cases c25 : x30_3 = true
   ·subst c25
    rw [if_pos rfl] at H
    replace H := Option.bind_eq_some_iff.mp H
    obtain ⟨t435, A260, H⟩ := H
    replace H : (some t435) = some r := H
    have A26 := Aside0.mk A260
    clear A260
    obtain rfl := Option.some.inj H
    go_wp2_with (first | (go_at_call 10; (with_reducible refine (marginalialaw11_alive.calls kj3  t435 _ m_ ?hmS A26.out).mono ?_); (case hmS => exact (pw_cell_below Bw HM.out)); rintro e w27 ⟨rfl, hb⟩; replace BK432 := Bb BK432 hb; replace BK433 := Bb BK433 hb; replace HB := Bs hb; clear hb))
    repeat (go_quiet (first | (go_at_call 10; (with_reducible refine (marginalialaw11_alive.calls kj3  t435 _ m_ ?hmS A26.out).mono ?_); (case hmS => exact (pw_cell_below Bw HM.out)); rintro e w27 ⟨rfl, hb⟩; replace BK432 := Bb BK432 hb; replace BK433 := Bb BK433 hb; replace HB := Bs hb; clear hb)); try go_wp2_with (first | (go_at_call 10; (with_reducible refine (marginalialaw11_alive.calls kj3  t435 _ m_ ?hmS A26.out).mono ?_); (case hmS => exact (pw_cell_below Bw HM.out)); rintro e w27 ⟨rfl, hb⟩; replace BK432 := Bb BK432 hb; replace BK433 := Bb BK433 hb; replace HB := Bs hb; clear hb)))
    go_ret
    exact ⟨Re, Bw⟩
   replace c25 := Bool.eq_false_iff.mpr c25
   subst c25
   rw [if_neg (show ¬ (false = true) by decide)] at H
   replace H := Option.bind_eq_some_iff.mp H
   obtain ⟨t436, A280, H⟩ := H
   try dsimp -simprocs only at H
   have A28 := Aside0.mk A280
   clear A280
   have HC29 := Aside0.mk H
   clear H
   have hnb30 := NB432_433.out
   have hnc30 := NB433_432.out
   obtain ⟨hcz31_0, hcz31_1, hcz31_2, hcz31_3, hcz31_4, hfz31_0, hfz31_1, hfz31_2, hfz31_3, hfz31_4⟩ := cells5 BK432
   obtain ⟨hcz32_0, hcz32_1, hfz32_0, hfz32_1⟩ := cells2 BK433
   go_upto_region 4 with (first | (go_at_call 18; (with_reducible refine (policy_Attr.calls kj3 _ _ l0_0 _ _ l0_1 _ _ l0_2 _ _ l0_3 a0_4 a1 a2_0 a2_1 t436 _ (Cs HR0_0) HC0_0.out (Cs HR0_1) HC0_1.out (Cs HR0_2) HC0_2.out (Cs HR0_3) HC0_3.out A28.out).mono ?_); rintro e w33 ⟨rfl, hb⟩; replace BK432 := Bb BK432 hb; replace BK433 := Bb BK433 hb; replace HB := Bs hb; clear hb))
   repeat (go_quiet (first | (go_at_call 18; (with_reducible refine (policy_Attr.calls kj3 _ _ l0_0 _ _ l0_1 _ _ l0_2 _ _ l0_3 a0_4 a1 a2_0 a2_1 t436 _ (Cs HR0_0) HC0_0.out (Cs HR0_1) HC0_1.out (Cs HR0_2) HC0_2.out (Cs HR0_3) HC0_3.out A28.out).mono ?_); rintro e w33 ⟨rfl, hb⟩; replace BK432 := Bb BK432 hb; replace BK433 := Bb BK433 hb; replace HB := Bs hb; clear hb)); go_upto_region 4 with (first | (go_at_call 18; (with_reducible refine (policy_Attr.calls kj3 _ _ l0_0 _ _ l0_1 _ _ l0_2 _ _ l0_3 a0_4 a1 a2_0 a2_1 t436 _ (Cs HR0_0) HC0_0.out (Cs HR0_1) HC0_1.out (Cs HR0_2) HC0_2.out (Cs HR0_3) HC0_3.out A28.out).mono ?_); rintro e w33 ⟨rfl, hb⟩; replace BK432 := Bb BK432 hb; replace BK433 := Bb BK433 hb; replace HB := Bs hb; clear hb)))
   (try simp only [Act.put, List.setIfInBounds_toArray, List.set_cons_zero, List.set_cons_succ])
   go_cut [63] (fun v63 wc => ∃ (kq : Nat) (x63_28 : Bool), v63 = .bool x63_28 ∧ Aside0 (marginalialaw11_PolicyNever.j1 kq t436 x63_28 l0_0 l0_1 l0_2 l0_3 a0_4 a2_0 a2_1 = some r) ∧ Aside0 (kq ≤ kj3) ∧ Aside0 (wc.heap[gb432]? = some (.cells #[(.slice A0_0 l0_0.length c0_0), (.slice A0_1 l0_1.length c0_1), (.slice A0_2 l0_2.length c0_2), (.slice A0_3 l0_3.length c0_3), .int .i64 a0_4] 25 (0, 0))) ∧ Aside0 (wc.heap[gb433]? = some (.cells #[.string a2_0, .string a2_1] 35 (0, 0))) ∧ Aside0 (Below w.heap.size w wc))
   case first =>
    have H := HC29.out
    clear HC29
    replace H := Option.bind_eq_some_iff.mp H
    obtain ⟨t437, A340, H⟩ := H
    try dsimp -simprocs only at H
    have A34 := Aside0.mk A340
    clear A340
    by_cases c35 : t437 = true
    ·subst c35
     rw [if_pos rfl] at H
     replace H := Option.bind_eq_some_iff.mp H
     obtain ⟨t438, A360, H⟩ := H
     try dsimp -simprocs only at H
     have A36 := Aside0.mk A360
     clear A360
     by_cases c37 : t438 = true
     ·subst c37
      rw [if_pos rfl] at H
      have H' := Aside0.mk H
      clear H
      have hnb38 := NB432_433.out
      have hnc38 := NB433_432.out
      obtain ⟨hcz39_0, hcz39_1, hcz39_2, hcz39_3, hcz39_4, hfz39_0, hfz39_1, hfz39_2, hfz39_3, hfz39_4⟩ := cells5 BK432
      go_wp2_with (first | (go_at_call 16; (with_reducible refine (policy_Element.calls kj3 _ _ l0_0 _ _ l0_1 _ _ l0_2 _ _ l0_3 a0_4 a1 true _ (Cs HR0_0) HC0_0.out (Cs HR0_1) HC0_1.out (Cs HR0_2) HC0_2.out (Cs HR0_3) HC0_3.out A34.out).mono ?_); rintro e w40 ⟨rfl, hb⟩; replace BK432 := Bb BK432 hb; replace BK433 := Bb BK433 hb; replace HB := Bs hb; clear hb) | (go_at_call 23; (with_reducible refine (kind_Is.calls kj3 2 a1 true _ A36.out).mono ?_); rintro e w41 ⟨rfl, hb⟩; replace BK432 := Bb BK432 hb; replace BK433 := Bb BK433 hb; replace HB := Bs hb; clear hb))
      repeat (go_quiet (first | (go_at_call 16; (with_reducible refine (policy_Element.calls kj3 _ _ l0_0 _ _ l0_1 _ _ l0_2 _ _ l0_3 a0_4 a1 true _ (Cs HR0_0) HC0_0.out (Cs HR0_1) HC0_1.out (Cs HR0_2) HC0_2.out (Cs HR0_3) HC0_3.out A34.out).mono ?_); rintro e w40 ⟨rfl, hb⟩; replace BK432 := Bb BK432 hb; replace BK433 := Bb BK433 hb; replace HB := Bs hb; clear hb) | (go_at_call 23; (with_reducible refine (kind_Is.calls kj3 2 a1 true _ A36.out).mono ?_); rintro e w41 ⟨rfl, hb⟩; replace BK432 := Bb BK432 hb; replace BK433 := Bb BK433 hb; replace HB := Bs hb; clear hb)); try go_wp2_with (first | (go_at_call 16; (with_reducible refine (policy_Element.calls kj3 _ _ l0_0 _ _ l0_1 _ _ l0_2 _ _ l0_3 a0_4 a1 true _ (Cs HR0_0) HC0_0.out (Cs HR0_1) HC0_1.out (Cs HR0_2) HC0_2.out (Cs HR0_3) HC0_3.out A34.out).mono ?_); rintro e w40 ⟨rfl, hb⟩; replace BK432 := Bb BK432 hb; replace BK433 := Bb BK433 hb; replace HB := Bs hb; clear hb) | (go_at_call 23; (with_reducible refine (kind_Is.calls kj3 2 a1 true _ A36.out).mono ?_); rintro e w41 ⟨rfl, hb⟩; replace BK432 := Bb BK432 hb; replace BK433 := Bb BK433 hb; replace HB := Bs hb; clear hb)))
      go_meet
      case rel => exact ⟨_, (true), Rs, H', ⟨by have := HJ3.out; first | omega | exact Nat.le_refl _⟩, ⟨(Bk BK432)⟩, ⟨(Bk BK433)⟩, ⟨Bw⟩⟩
     replace c37 := Bool.eq_false_iff.mpr c37
     subst c37
     rw [if_neg (show ¬ (false = true) by decide)] at H
     by_cases c42 : a1.toList = ([115, 118, 103] : List UInt8)
     ·rw [if_pos c42] at H
      have c42b0 : (a1.toList == ([115, 118, 103] : List UInt8)) = true := beq_iff_eq.mpr c42
      have c42b1 : (a1.toList != ([115, 118, 103] : List UInt8)) = false := bne_eq_false_iff_eq.mpr c42
      clear c42
      (first | rw [c42b0] | (simp only [i64_w, i32_w]; rw [c42b0]) | skip)
      have H' := Aside0.mk H
      clear H
      have hnb43 := NB432_433.out
      have hnc43 := NB433_432.out
      obtain ⟨hcz44_0, hcz44_1, hcz44_2, hcz44_3, hcz44_4, hfz44_0, hfz44_1, hfz44_2, hfz44_3, hfz44_4⟩ := cells5 BK432
      go_wp2_with (first | (go_at_call 16; (with_reducible refine (policy_Element.calls kj3 _ _ l0_0 _ _ l0_1 _ _ l0_2 _ _ l0_3 a0_4 a1 true _ (Cs HR0_0) HC0_0.out (Cs HR0_1) HC0_1.out (Cs HR0_2) HC0_2.out (Cs HR0_3) HC0_3.out A34.out).mono ?_); rintro e w45 ⟨rfl, hb⟩; replace BK432 := Bb BK432 hb; replace BK433 := Bb BK433 hb; replace HB := Bs hb; clear hb) | (go_at_call 23; (with_reducible refine (kind_Is.calls kj3 2 a1 false _ A36.out).mono ?_); rintro e w46 ⟨rfl, hb⟩; replace BK432 := Bb BK432 hb; replace BK433 := Bb BK433 hb; replace HB := Bs hb; clear hb))
      repeat (go_quiet (first | (go_at_call 16; (with_reducible refine (policy_Element.calls kj3 _ _ l0_0 _ _ l0_1 _ _ l0_2 _ _ l0_3 a0_4 a1 true _ (Cs HR0_0) HC0_0.out (Cs HR0_1) HC0_1.out (Cs HR0_2) HC0_2.out (Cs HR0_3) HC0_3.out A34.out).mono ?_); rintro e w45 ⟨rfl, hb⟩; replace BK432 := Bb BK432 hb; replace BK433 := Bb BK433 hb; replace HB := Bs hb; clear hb) | (go_at_call 23; (with_reducible refine (kind_Is.calls kj3 2 a1 false _ A36.out).mono ?_); rintro e w46 ⟨rfl, hb⟩; replace BK432 := Bb BK432 hb; replace BK433 := Bb BK433 hb; replace HB := Bs hb; clear hb)); try go_wp2_with (first | (go_at_call 16; (with_reducible refine (policy_Element.calls kj3 _ _ l0_0 _ _ l0_1 _ _ l0_2 _ _ l0_3 a0_4 a1 true _ (Cs HR0_0) HC0_0.out (Cs HR0_1) HC0_1.out (Cs HR0_2) HC0_2.out (Cs HR0_3) HC0_3.out A34.out).mono ?_); rintro e w45 ⟨rfl, hb⟩; replace BK432 := Bb BK432 hb; replace BK433 := Bb BK433 hb; replace HB := Bs hb; clear hb) | (go_at_call 23; (with_reducible refine (kind_Is.calls kj3 2 a1 false _ A36.out).mono ?_); rintro e w46 ⟨rfl, hb⟩; replace BK432 := Bb BK432 hb; replace BK433 := Bb BK433 hb; replace HB := Bs hb; clear hb)))
      go_meet
      case rel => exact ⟨_, (true), Rs, H', ⟨by have := HJ3.out; first | omega | exact Nat.le_refl _⟩, ⟨(Bk BK432)⟩, ⟨(Bk BK433)⟩, ⟨Bw⟩⟩
     rw [if_neg c42] at H
     have c42b0 : (a1.toList == ([115, 118, 103] : List UInt8)) = false := beq_eq_false_iff_ne.mpr c42
     have c42b1 : (a1.toList != ([115, 118, 103] : List UInt8)) = true := bne_iff_ne.mpr c42
     (first | rw [c42b0] | (simp only [i64_w, i32_w]; rw [c42b0]) | skip)
     by_cases c47 : a1.toList = ([109, 97, 116, 104] : List UInt8)
     ·rw [if_pos c47] at H
      have c47b0 : (a1.toList == ([109, 97, 116, 104] : List UInt8)) = true := beq_iff_eq.mpr c47
      have c47b1 : (a1.toList != ([109, 97, 116, 104] : List UInt8)) = false := bne_eq_false_iff_eq.mpr c47
      clear c47
      have H' := Aside0.mk H
      clear H
      have hnb48 := NB432_433.out
      have hnc48 := NB433_432.out
      obtain ⟨hcz49_0, hcz49_1, hcz49_2, hcz49_3, hcz49_4, hfz49_0, hfz49_1, hfz49_2, hfz49_3, hfz49_4⟩ := cells5 BK432
      go_wp2_with (first | (go_at_call 16; (with_reducible refine (policy_Element.calls kj3 _ _ l0_0 _ _ l0_1 _ _ l0_2 _ _ l0_3 a0_4 a1 true _ (Cs HR0_0) HC0_0.out (Cs HR0_1) HC0_1.out (Cs HR0_2) HC0_2.out (Cs HR0_3) HC0_3.out A34.out).mono ?_); rintro e w50 ⟨rfl, hb⟩; replace BK432 := Bb BK432 hb; replace BK433 := Bb BK433 hb; replace HB := Bs hb; clear hb) | (go_at_call 23; (with_reducible refine (kind_Is.calls kj3 2 a1 false _ A36.out).mono ?_); rintro e w51 ⟨rfl, hb⟩; replace BK432 := Bb BK432 hb; replace BK433 := Bb BK433 hb; replace HB := Bs hb; clear hb))
      repeat (go_quiet (first | (go_at_call 16; (with_reducible refine (policy_Element.calls kj3 _ _ l0_0 _ _ l0_1 _ _ l0_2 _ _ l0_3 a0_4 a1 true _ (Cs HR0_0) HC0_0.out (Cs HR0_1) HC0_1.out (Cs HR0_2) HC0_2.out (Cs HR0_3) HC0_3.out A34.out).mono ?_); rintro e w50 ⟨rfl, hb⟩; replace BK432 := Bb BK432 hb; replace BK433 := Bb BK433 hb; replace HB := Bs hb; clear hb) | (go_at_call 23; (with_reducible refine (kind_Is.calls kj3 2 a1 false _ A36.out).mono ?_); rintro e w51 ⟨rfl, hb⟩; replace BK432 := Bb BK432 hb; replace BK433 := Bb BK433 hb; replace HB := Bs hb; clear hb)); try go_wp2_with (first | (go_at_call 16; (with_reducible refine (policy_Element.calls kj3 _ _ l0_0 _ _ l0_1 _ _ l0_2 _ _ l0_3 a0_4 a1 true _ (Cs HR0_0) HC0_0.out (Cs HR0_1) HC0_1.out (Cs HR0_2) HC0_2.out (Cs HR0_3) HC0_3.out A34.out).mono ?_); rintro e w50 ⟨rfl, hb⟩; replace BK432 := Bb BK432 hb; replace BK433 := Bb BK433 hb; replace HB := Bs hb; clear hb) | (go_at_call 23; (with_reducible refine (kind_Is.calls kj3 2 a1 false _ A36.out).mono ?_); rintro e w51 ⟨rfl, hb⟩; replace BK432 := Bb BK432 hb; replace BK433 := Bb BK433 hb; replace HB := Bs hb; clear hb)))
      go_meet
      case rel => exact ⟨_, (true), Rs, H', ⟨by have := HJ3.out; first | omega | exact Nat.le_refl _⟩, ⟨(Bk BK432)⟩, ⟨(Bk BK433)⟩, ⟨Bw⟩⟩
     rw [if_neg c47] at H
     have c47b0 : (a1.toList == ([109, 97, 116, 104] : List UInt8)) = false := beq_eq_false_iff_ne.mpr c47
     have c47b1 : (a1.toList != ([109, 97, 116, 104] : List UInt8)) = true := bne_iff_ne.mpr c47
     by_cases c52 : a1.toList = ([112, 108, 97, 105, 110, 116, 101, 120, 116] : List UInt8)
     ·rw [if_pos c52] at H
      have c52b0 : (a1.toList == ([112, 108, 97, 105, 110, 116, 101, 120, 116] : List UInt8)) = true := beq_iff_eq.mpr c52
      have c52b1 : (a1.toList != ([112, 108, 97, 105, 110, 116, 101, 120, 116] : List UInt8)) = false := bne_eq_false_iff_eq.mpr c52
      clear c52
      have H' := Aside0.mk H
      clear H
      have hnb53 := NB432_433.out
      have hnc53 := NB433_432.out
      obtain ⟨hcz54_0, hcz54_1, hcz54_2, hcz54_3, hcz54_4, hfz54_0, hfz54_1, hfz54_2, hfz54_3, hfz54_4⟩ := cells5 BK432
      go_wp2_with (first | (go_at_call 16; (with_reducible refine (policy_Element.calls kj3 _ _ l0_0 _ _ l0_1 _ _ l0_2 _ _ l0_3 a0_4 a1 true _ (Cs HR0_0) HC0_0.out (Cs HR0_1) HC0_1.out (Cs HR0_2) HC0_2.out (Cs HR0_3) HC0_3.out A34.out).mono ?_); rintro e w55 ⟨rfl, hb⟩; replace BK432 := Bb BK432 hb; replace BK433 := Bb BK433 hb; replace HB := Bs hb; clear hb) | (go_at_call 23; (with_reducible refine (kind_Is.calls kj3 2 a1 false _ A36.out).mono ?_); rintro e w56 ⟨rfl, hb⟩; replace BK432 := Bb BK432 hb; replace BK433 := Bb BK433 hb; replace HB := Bs hb; clear hb))
      repeat (go_quiet (first | (go_at_call 16; (with_reducible refine (policy_Element.calls kj3 _ _ l0_0 _ _ l0_1 _ _ l0_2 _ _ l0_3 a0_4 a1 true _ (Cs HR0_0) HC0_0.out (Cs HR0_1) HC0_1.out (Cs HR0_2) HC0_2.out (Cs HR0_3) HC0_3.out A34.out).mono ?_); rintro e w55 ⟨rfl, hb⟩; replace BK432 := Bb BK432 hb; replace BK433 := Bb BK433 hb; replace HB := Bs hb; clear hb) | (go_at_call 23; (with_reducible refine (kind_Is.calls kj3 2 a1 false _ A36.out).mono ?_); rintro e w56 ⟨rfl, hb⟩; replace BK432 := Bb BK432 hb; replace BK433 := Bb BK433 hb; replace HB := Bs hb; clear hb)); try go_wp2_with (first | (go_at_call 16; (with_reducible refine (policy_Element.calls kj3 _ _ l0_0 _ _ l0_1 _ _ l0_2 _ _ l0_3 a0_4 a1 true _ (Cs HR0_0) HC0_0.out (Cs HR0_1) HC0_1.out (Cs HR0_2) HC0_2.out (Cs HR0_3) HC0_3.out A34.out).mono ?_); rintro e w55 ⟨rfl, hb⟩; replace BK432 := Bb BK432 hb; replace BK433 := Bb BK433 hb; replace HB := Bs hb; clear hb) | (go_at_call 23; (with_reducible refine (kind_Is.calls kj3 2 a1 false _ A36.out).mono ?_); rintro e w56 ⟨rfl, hb⟩; replace BK432 := Bb BK432 hb; replace BK433 := Bb BK433 hb; replace HB := Bs hb; clear hb)))
      go_meet
      case rel => exact ⟨_, (true), Rs, H', ⟨by have := HJ3.out; first | omega | exact Nat.le_refl _⟩, ⟨(Bk BK432)⟩, ⟨(Bk BK433)⟩, ⟨Bw⟩⟩
     rw [if_neg c52] at H
     have c52b0 : (a1.toList == ([112, 108, 97, 105, 110, 116, 101, 120, 116] : List UInt8)) = false := beq_eq_false_iff_ne.mpr c52
     have c52b1 : (a1.toList != ([112, 108, 97, 105, 110, 116, 101, 120, 116] : List UInt8)) = true := bne_iff_ne.mpr c52
     by_cases c57 : t436 = true
     ·subst c57
      rw [if_pos rfl] at H
      replace H := Option.bind_eq_some_iff.mp H
      obtain ⟨t439, A580, H⟩ := H
      try dsimp -simprocs only at H
      have A58 := Aside0.mk A580
      have HQt439 := Aside0.mk (show t439 = true from Option.some.inj (A58.out.symm.trans A34.out))
      clear A580
      have H' := Aside0.mk H
      clear H
      have hnb59 := NB432_433.out
      have hnc59 := NB433_432.out
      obtain ⟨hcz60_0, hcz60_1, hcz60_2, hcz60_3, hcz60_4, hfz60_0, hfz60_1, hfz60_2, hfz60_3, hfz60_4⟩ := cells5 BK432
      go_wp2_with (first | (go_at_call 16; (with_reducible refine (policy_Element.calls kj3 _ _ l0_0 _ _ l0_1 _ _ l0_2 _ _ l0_3 a0_4 a1 true _ (Cs HR0_0) HC0_0.out (Cs HR0_1) HC0_1.out (Cs HR0_2) HC0_2.out (Cs HR0_3) HC0_3.out A34.out).mono ?_); rintro e w61 ⟨rfl, hb⟩; replace BK432 := Bb BK432 hb; replace BK433 := Bb BK433 hb; replace HB := Bs hb; clear hb) | (go_at_call 23; (with_reducible refine (kind_Is.calls kj3 2 a1 false _ A36.out).mono ?_); rintro e w62 ⟨rfl, hb⟩; replace BK432 := Bb BK432 hb; replace BK433 := Bb BK433 hb; replace HB := Bs hb; clear hb; obtain ⟨hcz63_0, hcz63_1, hcz63_2, hcz63_3, hcz63_4, hfz63_0, hfz63_1, hfz63_2, hfz63_3, hfz63_4⟩ := cells5 BK432) | (go_at_call 16; (with_reducible refine (policy_Element.calls kj3 _ _ l0_0 _ _ l0_1 _ _ l0_2 _ _ l0_3 a0_4 a1 t439 _ (Cs HR0_0) HC0_0.out (Cs HR0_1) HC0_1.out (Cs HR0_2) HC0_2.out (Cs HR0_3) HC0_3.out A58.out).mono ?_); rintro e w64 ⟨rfl, hb⟩; replace BK432 := Bb BK432 hb; replace BK433 := Bb BK433 hb; replace HB := Bs hb; clear hb))
      repeat (go_quiet (first | (go_at_call 16; (with_reducible refine (policy_Element.calls kj3 _ _ l0_0 _ _ l0_1 _ _ l0_2 _ _ l0_3 a0_4 a1 true _ (Cs HR0_0) HC0_0.out (Cs HR0_1) HC0_1.out (Cs HR0_2) HC0_2.out (Cs HR0_3) HC0_3.out A34.out).mono ?_); rintro e w61 ⟨rfl, hb⟩; replace BK432 := Bb BK432 hb; replace BK433 := Bb BK433 hb; replace HB := Bs hb; clear hb) | (go_at_call 23; (with_reducible refine (kind_Is.calls kj3 2 a1 false _ A36.out).mono ?_); rintro e w62 ⟨rfl, hb⟩; replace BK432 := Bb BK432 hb; replace BK433 := Bb BK433 hb; replace HB := Bs hb; clear hb; obtain ⟨hcz63_0, hcz63_1, hcz63_2, hcz63_3, hcz63_4, hfz63_0, hfz63_1, hfz63_2, hfz63_3, hfz63_4⟩ := cells5 BK432) | (go_at_call 16; (with_reducible refine (policy_Element.calls kj3 _ _ l0_0 _ _ l0_1 _ _ l0_2 _ _ l0_3 a0_4 a1 t439 _ (Cs HR0_0) HC0_0.out (Cs HR0_1) HC0_1.out (Cs HR0_2) HC0_2.out (Cs HR0_3) HC0_3.out A58.out).mono ?_); rintro e w64 ⟨rfl, hb⟩; replace BK432 := Bb BK432 hb; replace BK433 := Bb BK433 hb; replace HB := Bs hb; clear hb)); try go_wp2_with (first | (go_at_call 16; (with_reducible refine (policy_Element.calls kj3 _ _ l0_0 _ _ l0_1 _ _ l0_2 _ _ l0_3 a0_4 a1 true _ (Cs HR0_0) HC0_0.out (Cs HR0_1) HC0_1.out (Cs HR0_2) HC0_2.out (Cs HR0_3) HC0_3.out A34.out).mono ?_); rintro e w61 ⟨rfl, hb⟩; replace BK432 := Bb BK432 hb; replace BK433 := Bb BK433 hb; replace HB := Bs hb; clear hb) | (go_at_call 23; (with_reducible refine (kind_Is.calls kj3 2 a1 false _ A36.out).mono ?_); rintro e w62 ⟨rfl, hb⟩; replace BK432 := Bb BK432 hb; replace BK433 := Bb BK433 hb; replace HB := Bs hb; clear hb; obtain ⟨hcz63_0, hcz63_1, hcz63_2, hcz63_3, hcz63_4, hfz63_0, hfz63_1, hfz63_2, hfz63_3, hfz63_4⟩ := cells5 BK432) | (go_at_call 16; (with_reducible refine (policy_Element.calls kj3 _ _ l0_0 _ _ l0_1 _ _ l0_2 _ _ l0_3 a0_4 a1 t439 _ (Cs HR0_0) HC0_0.out (Cs HR0_1) HC0_1.out (Cs HR0_2) HC0_2.out (Cs HR0_3) HC0_3.out A58.out).mono ?_); rintro e w64 ⟨rfl, hb⟩; replace BK432 := Bb BK432 hb; replace BK433 := Bb BK433 hb; replace HB := Bs hb; clear hb)))
      go_meet
      case rel => exact ⟨_, (!t439), (by first | rfl | (rw [HQt439.out]; rfl) | (simp; done) | (simp [*]; done)), H', ⟨by have := HJ3.out; first | omega | exact Nat.le_refl _⟩, ⟨(Bk BK432)⟩, ⟨(Bk BK433)⟩, ⟨Bw⟩⟩
     replace c57 := Bool.eq_false_iff.mpr c57
     subst c57
     rw [if_neg (show ¬ (false = true) by decide)] at H
     have H' := Aside0.mk H
     clear H
     have hnb65 := NB432_433.out
     have hnc65 := NB433_432.out
     obtain ⟨hcz66_0, hcz66_1, hcz66_2, hcz66_3, hcz66_4, hfz66_0, hfz66_1, hfz66_2, hfz66_3, hfz66_4⟩ := cells5 BK432
     go_wp2_with (first | (go_at_call 16; (with_reducible refine (policy_Element.calls kj3 _ _ l0_0 _ _ l0_1 _ _ l0_2 _ _ l0_3 a0_4 a1 true _ (Cs HR0_0) HC0_0.out (Cs HR0_1) HC0_1.out (Cs HR0_2) HC0_2.out (Cs HR0_3) HC0_3.out A34.out).mono ?_); rintro e w67 ⟨rfl, hb⟩; replace BK432 := Bb BK432 hb; replace BK433 := Bb BK433 hb; replace HB := Bs hb; clear hb) | (go_at_call 23; (with_reducible refine (kind_Is.calls kj3 2 a1 false _ A36.out).mono ?_); rintro e w68 ⟨rfl, hb⟩; replace BK432 := Bb BK432 hb; replace BK433 := Bb BK433 hb; replace HB := Bs hb; clear hb))
     repeat (go_quiet (first | (go_at_call 16; (with_reducible refine (policy_Element.calls kj3 _ _ l0_0 _ _ l0_1 _ _ l0_2 _ _ l0_3 a0_4 a1 true _ (Cs HR0_0) HC0_0.out (Cs HR0_1) HC0_1.out (Cs HR0_2) HC0_2.out (Cs HR0_3) HC0_3.out A34.out).mono ?_); rintro e w67 ⟨rfl, hb⟩; replace BK432 := Bb BK432 hb; replace BK433 := Bb BK433 hb; replace HB := Bs hb; clear hb) | (go_at_call 23; (with_reducible refine (kind_Is.calls kj3 2 a1 false _ A36.out).mono ?_); rintro e w68 ⟨rfl, hb⟩; replace BK432 := Bb BK432 hb; replace BK433 := Bb BK433 hb; replace HB := Bs hb; clear hb)); try go_wp2_with (first | (go_at_call 16; (with_reducible refine (policy_Element.calls kj3 _ _ l0_0 _ _ l0_1 _ _ l0_2 _ _ l0_3 a0_4 a1 true _ (Cs HR0_0) HC0_0.out (Cs HR0_1) HC0_1.out (Cs HR0_2) HC0_2.out (Cs HR0_3) HC0_3.out A34.out).mono ?_); rintro e w67 ⟨rfl, hb⟩; replace BK432 := Bb BK432 hb; replace BK433 := Bb BK433 hb; replace HB := Bs hb; clear hb) | (go_at_call 23; (with_reducible refine (kind_Is.calls kj3 2 a1 false _ A36.out).mono ?_); rintro e w68 ⟨rfl, hb⟩; replace BK432 := Bb BK432 hb; replace BK433 := Bb BK433 hb; replace HB := Bs hb; clear hb)))
     go_meet
     case rel => exact ⟨_, (false), Rs, H', ⟨by have := HJ3.out; first | omega | exact Nat.le_refl _⟩, ⟨(Bk BK432)⟩, ⟨(Bk BK433)⟩, ⟨Bw⟩⟩
    replace c35 := Bool.eq_false_iff.mpr c35
    subst c35
    rw [if_neg (show ¬ (false = true) by decide)] at H
    by_cases c69 : t436 = true
    ·subst c69
     rw [if_pos rfl] at H
     replace H := Option.bind_eq_some_iff.mp H
     obtain ⟨t440, A700, H⟩ := H
     try dsimp -simprocs only at H
     have A70 := Aside0.mk A700
     have HQt440 := Aside0.mk (show t440 = false from Option.some.inj (A70.out.symm.trans A34.out))
     clear A700
     have H' := Aside0.mk H
     clear H
     have hnb71 := NB432_433.out
     have hnc71 := NB433_432.out
     obtain ⟨hcz72_0, hcz72_1, hcz72_2, hcz72_3, hcz72_4, hfz72_0, hfz72_1, hfz72_2, hfz72_3, hfz72_4⟩ := cells5 BK432
     go_wp2_with (first | (go_at_call 16; (with_reducible refine (policy_Element.calls kj3 _ _ l0_0 _ _ l0_1 _ _ l0_2 _ _ l0_3 a0_4 a1 false _ (Cs HR0_0) HC0_0.out (Cs HR0_1) HC0_1.out (Cs HR0_2) HC0_2.out (Cs HR0_3) HC0_3.out A34.out).mono ?_); rintro e w73 ⟨rfl, hb⟩; replace BK432 := Bb BK432 hb; replace BK433 := Bb BK433 hb; replace HB := Bs hb; clear hb; obtain ⟨hcz74_0, hcz74_1, hcz74_2, hcz74_3, hcz74_4, hfz74_0, hfz74_1, hfz74_2, hfz74_3, hfz74_4⟩ := cells5 BK432) | (go_at_call 16; (with_reducible refine (policy_Element.calls kj3 _ _ l0_0 _ _ l0_1 _ _ l0_2 _ _ l0_3 a0_4 a1 t440 _ (Cs HR0_0) HC0_0.out (Cs HR0_1) HC0_1.out (Cs HR0_2) HC0_2.out (Cs HR0_3) HC0_3.out A70.out).mono ?_); rintro e w75 ⟨rfl, hb⟩; replace BK432 := Bb BK432 hb; replace BK433 := Bb BK433 hb; replace HB := Bs hb; clear hb))
     repeat (go_quiet (first | (go_at_call 16; (with_reducible refine (policy_Element.calls kj3 _ _ l0_0 _ _ l0_1 _ _ l0_2 _ _ l0_3 a0_4 a1 false _ (Cs HR0_0) HC0_0.out (Cs HR0_1) HC0_1.out (Cs HR0_2) HC0_2.out (Cs HR0_3) HC0_3.out A34.out).mono ?_); rintro e w73 ⟨rfl, hb⟩; replace BK432 := Bb BK432 hb; replace BK433 := Bb BK433 hb; replace HB := Bs hb; clear hb; obtain ⟨hcz74_0, hcz74_1, hcz74_2, hcz74_3, hcz74_4, hfz74_0, hfz74_1, hfz74_2, hfz74_3, hfz74_4⟩ := cells5 BK432) | (go_at_call 16; (with_reducible refine (policy_Element.calls kj3 _ _ l0_0 _ _ l0_1 _ _ l0_2 _ _ l0_3 a0_4 a1 t440 _ (Cs HR0_0) HC0_0.out (Cs HR0_1) HC0_1.out (Cs HR0_2) HC0_2.out (Cs HR0_3) HC0_3.out A70.out).mono ?_); rintro e w75 ⟨rfl, hb⟩; replace BK432 := Bb BK432 hb; replace BK433 := Bb BK433 hb; replace HB := Bs hb; clear hb)); try go_wp2_with (first | (go_at_call 16; (with_reducible refine (policy_Element.calls kj3 _ _ l0_0 _ _ l0_1 _ _ l0_2 _ _ l0_3 a0_4 a1 false _ (Cs HR0_0) HC0_0.out (Cs HR0_1) HC0_1.out (Cs HR0_2) HC0_2.out (Cs HR0_3) HC0_3.out A34.out).mono ?_); rintro e w73 ⟨rfl, hb⟩; replace BK432 := Bb BK432 hb; replace BK433 := Bb BK433 hb; replace HB := Bs hb; clear hb; obtain ⟨hcz74_0, hcz74_1, hcz74_2, hcz74_3, hcz74_4, hfz74_0, hfz74_1, hfz74_2, hfz74_3, hfz74_4⟩ := cells5 BK432) | (go_at_call 16; (with_reducible refine (policy_Element.calls kj3 _ _ l0_0 _ _ l0_1 _ _ l0_2 _ _ l0_3 a0_4 a1 t440 _ (Cs HR0_0) HC0_0.out (Cs HR0_1) HC0_1.out (Cs HR0_2) HC0_2.out (Cs HR0_3) HC0_3.out A70.out).mono ?_); rintro e w75 ⟨rfl, hb⟩; replace BK432 := Bb BK432 hb; replace BK433 := Bb BK433 hb; replace HB := Bs hb; clear hb)))
     go_meet
     case rel => exact ⟨_, (!t440), (by first | rfl | (rw [HQt440.out]; rfl) | (simp; done) | (simp [*]; done)), H', ⟨by have := HJ3.out; first | omega | exact Nat.le_refl _⟩, ⟨(Bk BK432)⟩, ⟨(Bk BK433)⟩, ⟨Bw⟩⟩
    replace c69 := Bool.eq_false_iff.mpr c69
    subst c69
    rw [if_neg (show ¬ (false = true) by decide)] at H
    have H' := Aside0.mk H
    clear H
    have hnb76 := NB432_433.out
    have hnc76 := NB433_432.out
    obtain ⟨hcz77_0, hcz77_1, hcz77_2, hcz77_3, hcz77_4, hfz77_0, hfz77_1, hfz77_2, hfz77_3, hfz77_4⟩ := cells5 BK432
    go_wp2_with (first | (go_at_call 16; (with_reducible refine (policy_Element.calls kj3 _ _ l0_0 _ _ l0_1 _ _ l0_2 _ _ l0_3 a0_4 a1 false _ (Cs HR0_0) HC0_0.out (Cs HR0_1) HC0_1.out (Cs HR0_2) HC0_2.out (Cs HR0_3) HC0_3.out A34.out).mono ?_); rintro e w78 ⟨rfl, hb⟩; replace BK432 := Bb BK432 hb; replace BK433 := Bb BK433 hb; replace HB := Bs hb; clear hb))
    repeat (go_quiet (first | (go_at_call 16; (with_reducible refine (policy_Element.calls kj3 _ _ l0_0 _ _ l0_1 _ _ l0_2 _ _ l0_3 a0_4 a1 false _ (Cs HR0_0) HC0_0.out (Cs HR0_1) HC0_1.out (Cs HR0_2) HC0_2.out (Cs HR0_3) HC0_3.out A34.out).mono ?_); rintro e w78 ⟨rfl, hb⟩; replace BK432 := Bb BK432 hb; replace BK433 := Bb BK433 hb; replace HB := Bs hb; clear hb)); try go_wp2_with (first | (go_at_call 16; (with_reducible refine (policy_Element.calls kj3 _ _ l0_0 _ _ l0_1 _ _ l0_2 _ _ l0_3 a0_4 a1 false _ (Cs HR0_0) HC0_0.out (Cs HR0_1) HC0_1.out (Cs HR0_2) HC0_2.out (Cs HR0_3) HC0_3.out A34.out).mono ?_); rintro e w78 ⟨rfl, hb⟩; replace BK432 := Bb BK432 hb; replace BK433 := Bb BK433 hb; replace HB := Bs hb; clear hb)))
    go_meet
    case rel => exact ⟨_, (false), Rs, H', ⟨by have := HJ3.out; first | omega | exact Nat.le_refl _⟩, ⟨(Bk BK432)⟩, ⟨(Bk BK433)⟩, ⟨Bw⟩⟩
   case rest =>
    clear HC29
    try clear c1
    try clear c2
    try clear p2
    try clear c3
    try clear c4
    try clear c5
    try clear c6
    try clear c7
    try clear c8
    try clear c9
    try clear c9b0
    try clear c9b1
    try clear c10
    try clear c13
    try clear c13b0
    try clear c13b1
    try clear c14
    try clear c18
    try clear c22
    try clear c25
    try clear c30
    try clear c35
    try clear c37
    try clear c38
    try clear c42
    try clear c42b0
    try clear c42b1
    try clear c43
    try clear c47
    try clear c47b0
    try clear c47b1
    try clear c48
    try clear c52
    try clear c52b0
    try clear c52b1
    try clear c53
    try clear c57
    try clear c59
    try clear c65
    try clear c69
    try clear c71
    try clear c76
    try clear hcz11_0 hcz11_1 hcz11_2 hcz11_3 hcz11_4
    try clear hcz15_0 hcz15_1 hcz15_2 hcz15_3 hcz15_4
    try clear hcz17_0 hcz17_1
    try clear hcz19_0 hcz19_1 hcz19_2 hcz19_3 hcz19_4
    try clear hcz21_0 hcz21_1
    try clear hcz23_0 hcz23_1 hcz23_2 hcz23_3 hcz23_4
    try clear hcz31_0 hcz31_1 hcz31_2 hcz31_3 hcz31_4
    try clear hcz32_0 hcz32_1
    try clear hcz39_0 hcz39_1 hcz39_2 hcz39_3 hcz39_4
    try clear hcz44_0 hcz44_1 hcz44_2 hcz44_3 hcz44_4
    try clear hcz49_0 hcz49_1 hcz49_2 hcz49_3 hcz49_4
    try clear hcz54_0 hcz54_1 hcz54_2 hcz54_3 hcz54_4
    try clear hcz60_0 hcz60_1 hcz60_2 hcz60_3 hcz60_4
    try clear hcz63_0 hcz63_1 hcz63_2 hcz63_3 hcz63_4
    try clear hcz66_0 hcz66_1 hcz66_2 hcz66_3 hcz66_4
    try clear hcz72_0 hcz72_1 hcz72_2 hcz72_3 hcz72_4
    try clear hcz74_0 hcz74_1 hcz74_2 hcz74_3 hcz74_4
    try clear hcz77_0 hcz77_1 hcz77_2 hcz77_3 hcz77_4
    try clear hfz11_0 hfz11_1 hfz11_2 hfz11_3 hfz11_4
    try clear hfz15_0 hfz15_1 hfz15_2 hfz15_3 hfz15_4
    try clear hfz17_0 hfz17_1
    try clear hfz19_0 hfz19_1 hfz19_2 hfz19_3 hfz19_4
    try clear hfz21_0 hfz21_1
    try clear hfz23_0 hfz23_1 hfz23_2 hfz23_3 hfz23_4
    try clear hfz31_0 hfz31_1 hfz31_2 hfz31_3 hfz31_4
    try clear hfz32_0 hfz32_1
    try clear hfz39_0 hfz39_1 hfz39_2 hfz39_3 hfz39_4
    try clear hfz44_0 hfz44_1 hfz44_2 hfz44_3 hfz44_4
    try clear hfz49_0 hfz49_1 hfz49_2 hfz49_3 hfz49_4
    try clear hfz54_0 hfz54_1 hfz54_2 hfz54_3 hfz54_4
    try clear hfz60_0 hfz60_1 hfz60_2 hfz60_3 hfz60_4
    try clear hfz63_0 hfz63_1 hfz63_2 hfz63_3 hfz63_4
    try clear hfz66_0 hfz66_1 hfz66_2 hfz66_3 hfz66_4
    try clear hfz72_0 hfz72_1 hfz72_2 hfz72_3 hfz72_4
    try clear hfz74_0 hfz74_1 hfz74_2 hfz74_3 hfz74_4
    try clear hfz77_0 hfz77_1 hfz77_2 hfz77_3 hfz77_4
    try clear p2
    obtain ⟨kq, x63_28, rfl, HA, HJ28, BK432, BK433, HB⟩ := hcut
    cases kq with
    | zero => exact absurd HA.out (by simp [marginalialaw11_PolicyNever.j1])
    | succ kj28 =>
     have H := HA.out
     clear HA
     simp only [marginalialaw11_PolicyNever.j1] at H
     by_cases c79 : x63_28 = true
     ·subst c79
      rw [if_pos rfl] at H
      obtain rfl := Option.some.inj H
      go_wp2
      repeat (go_quiet (fail); try go_wp2)
      go_ret
      exact ⟨Re, Bw⟩
     replace c79 := Bool.eq_false_iff.mpr c79
     subst c79
     rw [if_neg (show ¬ (false = true) by decide)] at H
     have HC80 := Aside0.mk H
     clear H
     go_upto_region 6 with (fail)
     repeat (go_quiet (fail); go_upto_region 6 with (fail))
     go_cut [82] (fun v82 wc => ∃ (kq : Nat) (x82_79 : Bool), v82 = .bool x82_79 ∧ Aside0 (marginalialaw11_PolicyNever.j2 kq t436 x82_79 l0_0 l0_1 l0_2 l0_3 a0_4 a2_0 a2_1 = some r) ∧ Aside0 (kq ≤ kj28) ∧ Aside0 (wc.heap[gb432]? = some (.cells #[(.slice A0_0 l0_0.length c0_0), (.slice A0_1 l0_1.length c0_1), (.slice A0_2 l0_2.length c0_2), (.slice A0_3 l0_3.length c0_3), .int .i64 a0_4] 25 (0, 0))) ∧ Aside0 (wc.heap[gb433]? = some (.cells #[.string a2_0, .string a2_1] 35 (0, 0))) ∧ Aside0 (Below w.heap.size w wc))
     case first =>
      have H := HC80.out
      clear HC80
      by_cases c81 : t436 = true
      ·subst c81
       rw [if_pos rfl] at H
       by_cases c82 : (a2_0.size : Int) ≥ 2
       ·rw [if_pos c82] at H
        have c82b0 : decide (2 ≤ (a2_0.size : Int)) = true := decide_eq_true c82
        have c82b1 : decide (2 ≤ a2_0.size) = true := decide_eq_true (by omega)
        clear c82
        (first | rw [c82b0] | (simp only [i64_w, i32_w]; rw [c82b0]) | skip)
        by_cases c83 : 0 < (a2_0.size : Int)
        ·rw [if_pos c83] at H
         have c83b0 : decide (0 < (a2_0.size : Int)) = true := decide_eq_true c83
         have c83b1 : decide (0 < a2_0.size) = true := decide_eq_true (by omega)
         clear c83
         by_cases c85 : (bt a2_0 0) = 111
         ·rw [if_pos c85] at H
          have c85b0 : ((bt a2_0 0) == 111) = true := beq_iff_eq.mpr c85
          have c85b1 : ((bt a2_0 0) != 111) = false := bne_eq_false_iff_eq.mpr c85
          clear c85
          by_cases c86 : 1 < (a2_0.size : Int)
          ·rw [if_pos c86] at H
           have c86b0 : decide (1 < (a2_0.size : Int)) = true := decide_eq_true c86
           have c86b1 : decide (1 < a2_0.size) = true := decide_eq_true (by omega)
           clear c86
           have H' := Aside0.mk H
           clear H
           have hnb88 := NB433_432.out
           have hnc88 := NB432_433.out
           obtain ⟨hcz89_0, hcz89_1, hfz89_0, hfz89_1⟩ := cells2 BK433
           have p84 : 0 ≤ (0 : Int) := (by omega)
           have q84 : 0 < a2_0.size := (by have : (0 : Int) < (a2_0.size : Int) := of_decide_eq_true Dt; omega)
           have hx84 : ∀ h : 0 < a2_0.size, ((a2_0[0]'h).toNat : Int) = bt a2_0 0 := bt_at a2_0 0
           clear p84
           have qi84 : (0 < (a2_0.size : Int)) = True := eq_true (of_decide_eq_true Dt)
           replace q84 := eq_true q84
           have p87 : 0 ≤ (1 : Int) := (by omega)
           have q87 : 1 < a2_0.size := (by have : (1 : Int) < (a2_0.size : Int) := of_decide_eq_true Dt; omega)
           have hx87 : ∀ h : 1 < a2_0.size, ((a2_0[1]'h).toNat : Int) = bt a2_0 1 := bt_at a2_0 1
           clear p87
           have qi87 : (1 < (a2_0.size : Int)) = True := eq_true (of_decide_eq_true Dt)
           replace q87 := eq_true q87
           go_wp2
           repeat (go_quiet (fail); try go_wp2)
           go_meet
           case rel => exact ⟨_, (((bt a2_0 1) == 110)), Rs, H', ⟨by have := HJ3.out; have := HJ28.out; first | omega | exact Nat.le_refl _⟩, ⟨(Bk BK432)⟩, ⟨(Bk BK433)⟩, ⟨Bw⟩⟩
          rw [if_neg c86] at H
          exact absurd H (by simp)
         rw [if_neg c85] at H
         have c85b0 : ((bt a2_0 0) == 111) = false := beq_eq_false_iff_ne.mpr c85
         have c85b1 : ((bt a2_0 0) != 111) = true := bne_iff_ne.mpr c85
         have H' := Aside0.mk H
         clear H
         have hnb90 := NB433_432.out
         have hnc90 := NB432_433.out
         obtain ⟨hcz91_0, hcz91_1, hfz91_0, hfz91_1⟩ := cells2 BK433
         have p84 : 0 ≤ (0 : Int) := (by omega)
         have q84 : 0 < a2_0.size := (by have : (0 : Int) < (a2_0.size : Int) := of_decide_eq_true Dt; omega)
         have hx84 : ∀ h : 0 < a2_0.size, ((a2_0[0]'h).toNat : Int) = bt a2_0 0 := bt_at a2_0 0
         clear p84
         have qi84 : (0 < (a2_0.size : Int)) = True := eq_true (of_decide_eq_true Dt)
         replace q84 := eq_true q84
         go_wp2
         repeat (go_quiet (fail); try go_wp2)
         go_meet
         case rel => exact ⟨_, (false), Rs, H', ⟨by have := HJ3.out; have := HJ28.out; first | omega | exact Nat.le_refl _⟩, ⟨(Bk BK432)⟩, ⟨(Bk BK433)⟩, ⟨Bw⟩⟩
        rw [if_neg c83] at H
        exact absurd H (by simp)
       rw [if_neg c82] at H
       have c82b0 : decide (2 ≤ (a2_0.size : Int)) = false := decide_eq_false c82
       have c82b1 : decide (2 ≤ a2_0.size) = false := decide_eq_false (by omega)
       clear c82
       (first | rw [c82b0] | (simp only [i64_w, i32_w]; rw [c82b0]) | skip)
       have H' := Aside0.mk H
       clear H
       have hnb92 := NB433_432.out
       have hnc92 := NB432_433.out
       obtain ⟨hcz93_0, hcz93_1, hfz93_0, hfz93_1⟩ := cells2 BK433
       go_wp2
       repeat (go_quiet (fail); try go_wp2)
       go_meet
       case rel => exact ⟨_, (false), Rs, H', ⟨by have := HJ3.out; have := HJ28.out; first | omega | exact Nat.le_refl _⟩, ⟨(Bk BK432)⟩, ⟨(Bk BK433)⟩, ⟨Bw⟩⟩
      replace c81 := Bool.eq_false_iff.mpr c81
      subst c81
      rw [if_neg (show ¬ (false = true) by decide)] at H
      have H' := Aside0.mk H
      clear H
      go_wp2
      repeat (go_quiet (fail); try go_wp2)
      go_meet
      case rel => exact ⟨_, (false), Rs, H', ⟨by have := HJ3.out; have := HJ28.out; first | omega | exact Nat.le_refl _⟩, ⟨(Bk BK432)⟩, ⟨(Bk BK433)⟩, ⟨Bw⟩⟩
     case rest =>
      clear HC80
      try clear c1
      try clear c2
      try clear p2
      try clear c3
      try clear c4
      try clear c5
      try clear c6
      try clear c7
      try clear c8
      try clear p8
      try clear q8
      try clear hx8
      try clear qi8
      try clear c9
      try clear c9b0
      try clear c9b1
      try clear c10
      try clear c13
      try clear c13b0
      try clear c13b1
      try clear c14
      try clear c18
      try clear c22
      try clear c25
      try clear c30
      try clear c35
      try clear c37
      try clear c38
      try clear c42
      try clear c42b0
      try clear c42b1
      try clear c43
      try clear c47
      try clear c47b0
      try clear c47b1
      try clear c48
      try clear c52
      try clear c52b0
      try clear c52b1
      try clear c53
      try clear c57
      try clear c59
      try clear c65
      try clear c69
      try clear c71
      try clear c76
      try clear c79
      try clear c81
      try clear c82
      try clear c82b0
      try clear c82b1
      try clear c83
      try clear c83b0
      try clear c83b1
      try clear p84
      try clear q84
      try clear hx84
      try clear qi84
      try clear c85
      try clear c85b0
      try clear c85b1
      try clear c86
      try clear c86b0
      try clear c86b1
      try clear p87
      try clear q87
      try clear hx87
      try clear qi87
      try clear c88
      try clear c90
      try clear c92
      try clear hcz11_0 hcz11_1 hcz11_2 hcz11_3 hcz11_4
      try clear hcz15_0 hcz15_1 hcz15_2 hcz15_3 hcz15_4
      try clear hcz17_0 hcz17_1
      try clear hcz19_0 hcz19_1 hcz19_2 hcz19_3 hcz19_4
      try clear hcz21_0 hcz21_1
      try clear hcz23_0 hcz23_1 hcz23_2 hcz23_3 hcz23_4
      try clear hcz31_0 hcz31_1 hcz31_2 hcz31_3 hcz31_4
      try clear hcz32_0 hcz32_1
      try clear hcz39_0 hcz39_1 hcz39_2 hcz39_3 hcz39_4
      try clear hcz44_0 hcz44_1 hcz44_2 hcz44_3 hcz44_4
      try clear hcz49_0 hcz49_1 hcz49_2 hcz49_3 hcz49_4
      try clear hcz54_0 hcz54_1 hcz54_2 hcz54_3 hcz54_4
      try clear hcz60_0 hcz60_1 hcz60_2 hcz60_3 hcz60_4
      try clear hcz63_0 hcz63_1 hcz63_2 hcz63_3 hcz63_4
      try clear hcz66_0 hcz66_1 hcz66_2 hcz66_3 hcz66_4
      try clear hcz72_0 hcz72_1 hcz72_2 hcz72_3 hcz72_4
      try clear hcz74_0 hcz74_1 hcz74_2 hcz74_3 hcz74_4
      try clear hcz77_0 hcz77_1 hcz77_2 hcz77_3 hcz77_4
      try clear hcz89_0 hcz89_1
      try clear hcz91_0 hcz91_1
      try clear hcz93_0 hcz93_1
      try clear hfz11_0 hfz11_1 hfz11_2 hfz11_3 hfz11_4
      try clear hfz15_0 hfz15_1 hfz15_2 hfz15_3 hfz15_4
      try clear hfz17_0 hfz17_1
      try clear hfz19_0 hfz19_1 hfz19_2 hfz19_3 hfz19_4
      try clear hfz21_0 hfz21_1
      try clear hfz23_0 hfz23_1 hfz23_2 hfz23_3 hfz23_4
      try clear hfz31_0 hfz31_1 hfz31_2 hfz31_3 hfz31_4
      try clear hfz32_0 hfz32_1
      try clear hfz39_0 hfz39_1 hfz39_2 hfz39_3 hfz39_4
      try clear hfz44_0 hfz44_1 hfz44_2 hfz44_3 hfz44_4
      try clear hfz49_0 hfz49_1 hfz49_2 hfz49_3 hfz49_4
      try clear hfz54_0 hfz54_1 hfz54_2 hfz54_3 hfz54_4
      try clear hfz60_0 hfz60_1 hfz60_2 hfz60_3 hfz60_4
      try clear hfz63_0 hfz63_1 hfz63_2 hfz63_3 hfz63_4
      try clear hfz66_0 hfz66_1 hfz66_2 hfz66_3 hfz66_4
      try clear hfz72_0 hfz72_1 hfz72_2 hfz72_3 hfz72_4
      try clear hfz74_0 hfz74_1 hfz74_2 hfz74_3 hfz74_4
      try clear hfz77_0 hfz77_1 hfz77_2 hfz77_3 hfz77_4
      try clear hfz89_0 hfz89_1
      try clear hfz91_0 hfz91_1
      try clear hfz93_0 hfz93_1
      try clear p2
      try clear p84
      try clear p87
      try clear q84
      try clear q87
      obtain ⟨kq, x82_79, rfl, HA, HJ79, BK432, BK433, HB⟩ := hcut
      cases kq with
      | zero => exact absurd HA.out (by simp [marginalialaw11_PolicyNever.j2])
      | succ kj79 =>
       have H := HA.out
       clear HA
       simp only [marginalialaw11_PolicyNever.j2] at H
       by_cases c94 : x82_79 = true
       ·subst c94
        rw [if_pos rfl] at H
        obtain rfl := Option.some.inj H
        go_wp2
        repeat (go_quiet (fail); try go_wp2)
        go_ret
        exact ⟨Re, Bw⟩
       replace c94 := Bool.eq_false_iff.mpr c94
       subst c94
       rw [if_neg (show ¬ (false = true) by decide)] at H
       replace H := Option.bind_eq_some_iff.mp H
       obtain ⟨⟨t441, t442⟩, A950, H⟩ := H
       try dsimp -simprocs only at H
       have A95 := Aside0.mk A950
       clear A950
       have H' := Aside0.mk H
       clear H
       have hnb96 := NB433_432.out
       have hnc96 := NB432_433.out
       obtain ⟨hcz97_0, hcz97_1, hfz97_0, hfz97_1⟩ := cells2 BK433
       go_wp2_with (first | (go_at_call 24; (with_reducible refine (scheme_Of.calls kj79 a2_1 t441 t442 _ A95.out).mono ?_); rintro e w98 ⟨rfl, hb⟩; replace BK432 := Bb BK432 hb; replace BK433 := Bb BK433 hb; replace HB := Bs hb; clear hb))
       repeat (go_quiet (first | (go_at_call 24; (with_reducible refine (scheme_Of.calls kj79 a2_1 t441 t442 _ A95.out).mono ?_); rintro e w98 ⟨rfl, hb⟩; replace BK432 := Bb BK432 hb; replace BK433 := Bb BK433 hb; replace HB := Bs hb; clear hb)); try go_wp2_with (first | (go_at_call 24; (with_reducible refine (scheme_Of.calls kj79 a2_1 t441 t442 _ A95.out).mono ?_); rintro e w98 ⟨rfl, hb⟩; replace BK432 := Bb BK432 hb; replace BK433 := Bb BK433 hb; replace HB := Bs hb; clear hb)))
       go_loopg [10] kj79 (fun kq v10 w' => ∃ (x10_4 : Int), v10 = .int .i64 x10_4 ∧ Aside0 (marginalialaw11_PolicyNever.l0 kq t436 t441 t442 x10_4 l0_0 l0_1 l0_2 l0_3 a0_4 a2_0 a2_1 = some r) ∧ Aside0 (kq ≤ kj79) ∧ Aside0 (w'.heap[gb432]? = some (.cells #[(.slice A0_0 l0_0.length c0_0), (.slice A0_1 l0_1.length c0_1), (.slice A0_2 l0_2.length c0_2), (.slice A0_3 l0_3.length c0_3), .int .i64 a0_4] 25 (0, 0))) ∧ Aside0 (w'.heap[gb433]? = some (.cells #[.string a2_0, .string a2_1] 35 (0, 0))) ∧ Aside0 (Below w.heap.size w w'))
       case atStart => exact ⟨(0), Rs, H', ⟨Nat.le_refl _⟩, ⟨(Bk BK432)⟩, ⟨(Bk BK433)⟩, ⟨Bw⟩⟩
       case round =>
        clear H'
        try clear c1
        try clear c2
        try clear p2
        try clear c3
        try clear c4
        try clear c5
        try clear c6
        try clear c7
        try clear c8
        try clear p8
        try clear q8
        try clear hx8
        try clear qi8
        try clear c9
        try clear c9b0
        try clear c9b1
        try clear c10
        try clear c13
        try clear c13b0
        try clear c13b1
        try clear c14
        try clear c18
        try clear c22
        try clear c25
        try clear c30
        try clear c35
        try clear c37
        try clear c38
        try clear c42
        try clear c42b0
        try clear c42b1
        try clear c43
        try clear c47
        try clear c47b0
        try clear c47b1
        try clear c48
        try clear c52
        try clear c52b0
        try clear c52b1
        try clear c53
        try clear c57
        try clear c59
        try clear c65
        try clear c69
        try clear c71
        try clear c76
        try clear c79
        try clear c81
        try clear c82
        try clear c82b0
        try clear c82b1
        try clear c83
        try clear c83b0
        try clear c83b1
        try clear p84
        try clear q84
        try clear hx84
        try clear qi84
        try clear c85
        try clear c85b0
        try clear c85b1
        try clear c86
        try clear c86b0
        try clear c86b1
        try clear p87
        try clear q87
        try clear hx87
        try clear qi87
        try clear c88
        try clear c90
        try clear c92
        try clear c94
        try clear c96
        try clear hcz11_0 hcz11_1 hcz11_2 hcz11_3 hcz11_4
        try clear hcz15_0 hcz15_1 hcz15_2 hcz15_3 hcz15_4
        try clear hcz17_0 hcz17_1
        try clear hcz19_0 hcz19_1 hcz19_2 hcz19_3 hcz19_4
        try clear hcz21_0 hcz21_1
        try clear hcz23_0 hcz23_1 hcz23_2 hcz23_3 hcz23_4
        try clear hcz31_0 hcz31_1 hcz31_2 hcz31_3 hcz31_4
        try clear hcz32_0 hcz32_1
        try clear hcz39_0 hcz39_1 hcz39_2 hcz39_3 hcz39_4
        try clear hcz44_0 hcz44_1 hcz44_2 hcz44_3 hcz44_4
        try clear hcz49_0 hcz49_1 hcz49_2 hcz49_3 hcz49_4
        try clear hcz54_0 hcz54_1 hcz54_2 hcz54_3 hcz54_4
        try clear hcz60_0 hcz60_1 hcz60_2 hcz60_3 hcz60_4
        try clear hcz63_0 hcz63_1 hcz63_2 hcz63_3 hcz63_4
        try clear hcz66_0 hcz66_1 hcz66_2 hcz66_3 hcz66_4
        try clear hcz72_0 hcz72_1 hcz72_2 hcz72_3 hcz72_4
        try clear hcz74_0 hcz74_1 hcz74_2 hcz74_3 hcz74_4
        try clear hcz77_0 hcz77_1 hcz77_2 hcz77_3 hcz77_4
        try clear hcz89_0 hcz89_1
        try clear hcz91_0 hcz91_1
        try clear hcz93_0 hcz93_1
        try clear hcz97_0 hcz97_1
        try clear hfz11_0 hfz11_1 hfz11_2 hfz11_3 hfz11_4
        try clear hfz15_0 hfz15_1 hfz15_2 hfz15_3 hfz15_4
        try clear hfz17_0 hfz17_1
        try clear hfz19_0 hfz19_1 hfz19_2 hfz19_3 hfz19_4
        try clear hfz21_0 hfz21_1
        try clear hfz23_0 hfz23_1 hfz23_2 hfz23_3 hfz23_4
        try clear hfz31_0 hfz31_1 hfz31_2 hfz31_3 hfz31_4
        try clear hfz32_0 hfz32_1
        try clear hfz39_0 hfz39_1 hfz39_2 hfz39_3 hfz39_4
        try clear hfz44_0 hfz44_1 hfz44_2 hfz44_3 hfz44_4
        try clear hfz49_0 hfz49_1 hfz49_2 hfz49_3 hfz49_4
        try clear hfz54_0 hfz54_1 hfz54_2 hfz54_3 hfz54_4
        try clear hfz60_0 hfz60_1 hfz60_2 hfz60_3 hfz60_4
        try clear hfz63_0 hfz63_1 hfz63_2 hfz63_3 hfz63_4
        try clear hfz66_0 hfz66_1 hfz66_2 hfz66_3 hfz66_4
        try clear hfz72_0 hfz72_1 hfz72_2 hfz72_3 hfz72_4
        try clear hfz74_0 hfz74_1 hfz74_2 hfz74_3 hfz74_4
        try clear hfz77_0 hfz77_1 hfz77_2 hfz77_3 hfz77_4
        try clear hfz89_0 hfz89_1
        try clear hfz91_0 hfz91_1
        try clear hfz93_0 hfz93_1
        try clear hfz97_0 hfz97_1
        try clear p2
        try clear p8
        try clear p84
        try clear p87
        try clear q8
        try clear q84
        try clear q87
        obtain ⟨x10_4, rfl, HA, HK4, BK432, BK433, HB⟩ := hrel
        cases gk with
        | zero => exact absurd HA.out (by simp [marginalialaw11_PolicyNever.l0])
        | succ k4 =>
         have H := HA.out
         clear HA
         simp only [marginalialaw11_PolicyNever.l0] at H
         by_cases c99 : x10_4 < (l0_1.length : Int)
         ·rw [if_pos c99] at H
          have c99b0 : decide (x10_4 < (l0_1.length : Int)) = true := decide_eq_true c99
          clear c99
          by_cases c100 : t436 = true
          ·subst c100
           rw [if_pos rfl] at H
           by_cases c101 : t442 = true
           ·subst c101
            rw [if_pos rfl] at H
            by_cases c102 : t441.toList = ([106, 97, 118, 97, 115, 99, 114, 105, 112, 116] : List UInt8)
            ·rw [if_pos c102] at H
             have c102b0 : (t441.toList == ([106, 97, 118, 97, 115, 99, 114, 105, 112, 116] : List UInt8)) = true := beq_iff_eq.mpr c102
             have c102b1 : (t441.toList != ([106, 97, 118, 97, 115, 99, 114, 105, 112, 116] : List UInt8)) = false := bne_eq_false_iff_eq.mpr c102
             clear c102
             by_cases c103 : 0 ≤ x10_4
             ·rw [if_pos c103] at H
              have c103b0 : decide (0 ≤ x10_4) = true := decide_eq_true c103
              clear c103
              by_cases c104 : (rdOf ByteArray.empty l0_1 x10_4).toList = a2_0.toList
              ·rw [if_pos c104] at H
               have c104b0 : ((rdOf ByteArray.empty l0_1 x10_4).toList == a2_0.toList) = true := beq_iff_eq.mpr c104
               have c104b1 : ((rdOf ByteArray.empty l0_1 x10_4).toList != a2_0.toList) = false := bne_eq_false_iff_eq.mpr c104
               clear c104
               obtain rfl := Option.some.inj H
               have hnb105 := NB432_433.out
               have hnc105 := NB433_432.out
               obtain ⟨hcz106_0, hcz106_1, hcz106_2, hcz106_3, hcz106_4, hfz106_0, hfz106_1, hfz106_2, hfz106_3, hfz106_4⟩ := cells5 BK432
               have p443 : 0 ≤ (x10_4 : Int) := of_decide_eq_true Dt
               have q443 : x10_4 < (l0_1.length : Int) := of_decide_eq_true Dt
               obtain ⟨ad443, e443, hx443_0⟩ := Kd.at_string HR0_1.out x10_4 p443 q443
               cases e443
               replace hx443_0 := Hx hx443_0
               replace p443 := eq_true p443
               replace q443 := eq_true q443
               obtain ⟨hcz107_0, hcz107_1, hfz107_0, hfz107_1⟩ := cells2 BK433
               go_wp2
               repeat (go_quiet (fail); try go_wp2)
               go_ret
               exact ⟨Re, Bw⟩
              rw [if_neg c104] at H
              have c104b0 : ((rdOf ByteArray.empty l0_1 x10_4).toList == a2_0.toList) = false := beq_eq_false_iff_ne.mpr c104
              have c104b1 : ((rdOf ByteArray.empty l0_1 x10_4).toList != a2_0.toList) = true := bne_iff_ne.mpr c104
              have H' := Aside0.mk H
              clear H
              have hnb108 := NB432_433.out
              have hnc108 := NB433_432.out
              obtain ⟨hcz109_0, hcz109_1, hcz109_2, hcz109_3, hcz109_4, hfz109_0, hfz109_1, hfz109_2, hfz109_3, hfz109_4⟩ := cells5 BK432
              have p443 : 0 ≤ (x10_4 : Int) := of_decide_eq_true Dt
              have q443 : x10_4 < (l0_1.length : Int) := of_decide_eq_true Dt
              obtain ⟨ad443, e443, hx443_0⟩ := Kd.at_string HR0_1.out x10_4 p443 q443
              cases e443
              replace hx443_0 := Hx hx443_0
              replace p443 := eq_true p443
              replace q443 := eq_true q443
              obtain ⟨hcz110_0, hcz110_1, hfz110_0, hfz110_1⟩ := cells2 BK433
              go_wp2
              repeat (go_quiet (fail); try go_wp2)
              go_roundg k4
              case measure => have := HJ3.out; have := HJ28.out; have := HJ79.out; have := HK4.out; omega
              case rel => exact ⟨(wrap64 (x10_4 + 1)), Rs, H', ⟨by have := HJ3.out; have := HJ28.out; have := HJ79.out; have := HK4.out; omega⟩, ⟨(Bk BK432)⟩, ⟨(Bk BK433)⟩, ⟨Bw⟩⟩
             rw [if_neg c103] at H
             exact absurd H (by simp)
            rw [if_neg c102] at H
            have c102b0 : (t441.toList == ([106, 97, 118, 97, 115, 99, 114, 105, 112, 116] : List UInt8)) = false := beq_eq_false_iff_ne.mpr c102
            have c102b1 : (t441.toList != ([106, 97, 118, 97, 115, 99, 114, 105, 112, 116] : List UInt8)) = true := bne_iff_ne.mpr c102
            have H' := Aside0.mk H
            clear H
            have hnb111 := NB432_433.out
            have hnc111 := NB433_432.out
            obtain ⟨hcz112_0, hcz112_1, hcz112_2, hcz112_3, hcz112_4, hfz112_0, hfz112_1, hfz112_2, hfz112_3, hfz112_4⟩ := cells5 BK432
            go_wp2
            repeat (go_quiet (fail); try go_wp2)
            go_roundg k4
            case measure => have := HJ3.out; have := HJ28.out; have := HJ79.out; have := HK4.out; omega
            case rel => exact ⟨(wrap64 (x10_4 + 1)), Rs, H', ⟨by have := HJ3.out; have := HJ28.out; have := HJ79.out; have := HK4.out; omega⟩, ⟨(Bk BK432)⟩, ⟨(Bk BK433)⟩, ⟨Bw⟩⟩
           replace c101 := Bool.eq_false_iff.mpr c101
           subst c101
           rw [if_neg (show ¬ (false = true) by decide)] at H
           have H' := Aside0.mk H
           clear H
           have hnb113 := NB432_433.out
           have hnc113 := NB433_432.out
           obtain ⟨hcz114_0, hcz114_1, hcz114_2, hcz114_3, hcz114_4, hfz114_0, hfz114_1, hfz114_2, hfz114_3, hfz114_4⟩ := cells5 BK432
           go_wp2
           repeat (go_quiet (fail); try go_wp2)
           go_roundg k4
           case measure => have := HJ3.out; have := HJ28.out; have := HJ79.out; have := HK4.out; omega
           case rel => exact ⟨(wrap64 (x10_4 + 1)), Rs, H', ⟨by have := HJ3.out; have := HJ28.out; have := HJ79.out; have := HK4.out; omega⟩, ⟨(Bk BK432)⟩, ⟨(Bk BK433)⟩, ⟨Bw⟩⟩
          replace c100 := Bool.eq_false_iff.mpr c100
          subst c100
          rw [if_neg (show ¬ (false = true) by decide)] at H
          have H' := Aside0.mk H
          clear H
          have hnb115 := NB432_433.out
          have hnc115 := NB433_432.out
          obtain ⟨hcz116_0, hcz116_1, hcz116_2, hcz116_3, hcz116_4, hfz116_0, hfz116_1, hfz116_2, hfz116_3, hfz116_4⟩ := cells5 BK432
          go_wp2
          repeat (go_quiet (fail); try go_wp2)
          go_roundg k4
          case measure => have := HJ3.out; have := HJ28.out; have := HJ79.out; have := HK4.out; omega
          case rel => exact ⟨(wrap64 (x10_4 + 1)), Rs, H', ⟨by have := HJ3.out; have := HJ28.out; have := HJ79.out; have := HK4.out; omega⟩, ⟨(Bk BK432)⟩, ⟨(Bk BK433)⟩, ⟨Bw⟩⟩
         rw [if_neg c99] at H
         have c99b0 : decide (x10_4 < (l0_1.length : Int)) = false := decide_eq_false c99
         clear c99
         replace H := Option.bind_eq_some_iff.mp H
         obtain ⟨t444, A1170, H⟩ := H
         replace H : (some t444) = some r := H
         have A117 := Aside0.mk A1170
         clear A1170
         obtain rfl := Option.some.inj H
         have hnb118 := NB432_433.out
         have hnc118 := NB433_432.out
         obtain ⟨hcz119_0, hcz119_1, hcz119_2, hcz119_3, hcz119_4, hfz119_0, hfz119_1, hfz119_2, hfz119_3, hfz119_4⟩ := cells5 BK432
         go_wp2_with (first | (go_at_call 10; (with_reducible refine (marginalialaw11_alive.calls k4  t444 _ m_ ?hmS A117.out).mono ?_); (case hmS => exact (pw_cell_below Bw HM.out)); rintro e w120 ⟨rfl, hb⟩; replace BK432 := Bb BK432 hb; replace BK433 := Bb BK433 hb; replace HB := Bs hb; clear hb))
         repeat (go_quiet (first | (go_at_call 10; (with_reducible refine (marginalialaw11_alive.calls k4  t444 _ m_ ?hmS A117.out).mono ?_); (case hmS => exact (pw_cell_below Bw HM.out)); rintro e w120 ⟨rfl, hb⟩; replace BK432 := Bb BK432 hb; replace BK433 := Bb BK433 hb; replace HB := Bs hb; clear hb)); try go_wp2_with (first | (go_at_call 10; (with_reducible refine (marginalialaw11_alive.calls k4  t444 _ m_ ?hmS A117.out).mono ?_); (case hmS => exact (pw_cell_below Bw HM.out)); rintro e w120 ⟨rfl, hb⟩; replace BK432 := Bb BK432 hb; replace BK433 := Bb BK433 hb; replace HB := Bs hb; clear hb)))
         go_ret
         exact ⟨Re, Bw⟩

end Go.Proofs.YtnbghhddmlohoaaDoor.PAll

end

section
namespace Go.Proofs.YtnbghhddmlohoaaDoor.RowOpen
open Go.RowKit Go.Proofs.YtnbghhddmlohoaaDoorW.PrintWords

section
variable {P : Program}
def Opens (P : Program) {α : Type} (t : TypeId) (d : Kd α) (g : α → Prop) : Prop :=
  ∀ (H : Type) (enc : TypeId × Value → H) (fuel : Nat) (w : World) (cs : List Value) (x : DataW H × List MemPlace), DataW.trod enc P w 0 (fun _ => true) true fuel t cs = some x → ∃ a, d.K w a cs ∧ g a
theorem Opens.imp {α : Type} {t : TypeId} {d : Kd α} {g g' : α → Prop} (h : Opens P t d g) (hg : ∀ a, g a → g' a) : Opens P t d g' := fun H enc fuel w cs x hx => by
  obtain ⟨a, hK, ha⟩ := h H enc fuel w cs x hx
  exact ⟨a, hK, hg a ha⟩
theorem opens_int {t : TypeId} {k : IntKind} (hu : P.underlying t = some (.int k)) : Opens P t (Kd.int k) (fun n => (Lit.int k n).wf = true) := fun H enc fuel w cs x hx => by
  cases fuel with
  | zero => simp [DataW.trod] at hx
  | succ m =>
    unfold DataW.trod at hx
    rw [hu] at hx
    split at hx <;> simp_all
    obtain ⟨⟨rfl, hw⟩, _⟩ := hx
    exact ⟨_, rfl, hw⟩
theorem opens_string {t : TypeId} (hu : P.underlying t = some .string) : Opens P t Kd.string (fun s => s.size ≤ maxLen) := fun H enc fuel w cs x hx => by
  cases fuel with
  | zero => simp [DataW.trod] at hx
  | succ m =>
    unfold DataW.trod at hx
    rw [hu] at hx
    split at hx <;> simp_all
    exact ⟨_, rfl, hx.1⟩
theorem cells_get {w : World} {a : Addr} {n : Nat} {cs : List Value} (h : w.cells? 0 a n = some cs) : cs.length = n ∧ ∀ j u, cs[j]? = some u → w.cell? (a.add j) = some u := by
  unfold World.cells? at h
  rw [if_pos (Nat.zero_le _)] at h
  have hl := mapM_some_length h
  rw [List.length_range] at hl
  refine ⟨hl, fun j u hj => ?_⟩
  have hlt : j < cs.length := (List.getElem?_eq_some_iff.1 hj).1
  have := mapM_some_get h j j (by rw [List.getElem?_range (by omega)])
  rw [this, hj]
theorem list_of {α : Type} {p : Nat → α → Prop} : ∀ n : Nat, (∀ i, i < n → ∃ a, p i a) → ∃ xs : List α, xs.length = n ∧ ∀ i a, xs[i]? = some a → p i a
  | 0, _ => ⟨[], rfl, fun i a h => by simp at h⟩
  | n + 1, h => by
    obtain ⟨xs, hl, hx⟩ := list_of n (fun i hi => h i (by omega))
    obtain ⟨a, ha⟩ := h n (by omega)
    refine ⟨xs ++ [a], by simp [hl], fun i b hb => ?_⟩
    rcases Nat.lt_trichotomy i n with hi | hi | hi
    · rw [List.getElem?_append_left (by omega)] at hb
      exact hx i b hb
    · subst hi
      rw [List.getElem?_append_right (by omega), hl, Nat.sub_self] at hb
      simp at hb
      subst hb
      exact ha
    · rw [List.getElem?_eq_none (by simp; omega)] at hb
      cases hb
theorem opens_slice {α : Type} {t e : TypeId} {d : Kd α} {g : α → Prop} (hu : P.underlying t = some (.slice e)) (hsz : P.cellsOf e = d.sz) (h : Opens P e d g) :
    Opens P t (Kd.slice e d) (fun xs => xs.length ≤ maxLen ∧ ∀ x ∈ xs, g x) := fun H enc fuel w cs x hx => by
  rcases Go.Deep.open_slice hu hx with ⟨rfl, _⟩ | ⟨a, len, cap, m, n, D, Pl, rfl, _, hl, hm, hmm, _, hel⟩
  · exact ⟨[], ⟨none, 0, rfl, Nat.le_refl _, rfl, by simp, fun h => absurd h (by simp)⟩, by simp, by simp⟩
  · rw [if_pos rfl] at hmm
    subst hmm
    obtain ⟨xs, hxl, hxs⟩ := list_of (p := fun i y => ∃ c, w.cells? 0 (a.add (i * d.sz)) d.sz = some c ∧ d.K w y c ∧ g y) len (fun i hi => by
      obtain ⟨c, hc, ht⟩ := hel i (by omega)
      rw [hsz] at hc
      obtain ⟨y, hK, hg⟩ := h H enc n w c _ ht
      exact ⟨y, c, hc, hK, hg⟩)
    subst hxl
    refine ⟨xs, ⟨some a, m, rfl, hl, rfl, ?_, fun _ => ⟨a, rfl, fun j p hp => ?_⟩⟩, by omega, fun y hy => ?_⟩
    · unfold maxLen at hm; omega
    · obtain ⟨c, hc, hK, _⟩ := hxs j p hp
      obtain ⟨hcl, hcg⟩ := cells_get hc
      exact ⟨c, hcl, hK, fun i u hu' => by rw [← Addr.add_add]; exact hcg i u hu'⟩
    · obtain ⟨j, hj⟩ := List.getElem?_of_mem hy
      obtain ⟨c, _, _, hg⟩ := hxs j y hj
      exact hg
def OpensF (P : Program) {α : Type} (fs : List Field) (d : Kd α) (g : α → Prop) (off : Nat) : Prop :=
  ∀ (H : Type) (enc : TypeId × Value → H) (fuel : Nat) (w : World) (cs : List Value) (xs : List (DataW H × List MemPlace)), cs.length = off + d.sz →
    (∀ (i : Nat) (f : Field), fs[i]? = some f → DataW.trod enc P w 0 (fun _ => true) true fuel f.type ((cs.drop f.offset).take (P.cellsOf f.type)) = xs[i]?) → xs.length = fs.length → ∃ a, d.K w a (cs.drop off) ∧ g a
theorem opensF_one {α : Type} {f : Field} {d : Kd α} {g : α → Prop} {off : Nat} (ho : f.offset = off) (hsz : P.cellsOf f.type = d.sz) (h : Opens P f.type d g) : OpensF P [f] d g off := fun H enc fuel w cs xs hl hx hn => by
  have h0 := hx 0 f rfl
  match xs, hn with
  | [x], _ =>
    rw [ho, hsz, List.take_of_length_le (by rw [List.length_drop]; omega)] at h0
    exact h H enc fuel w _ x h0
theorem opensF_cons {α β : Type} {f : Field} {fs : List Field} {d : Kd α} {d' : Kd β} {g : α → Prop} {g' : β → Prop} {off : Nat} (ho : f.offset = off) (hsz : P.cellsOf f.type = d.sz) (h : Opens P f.type d g) (hf : OpensF P fs d' g' (off + d.sz)) :
    OpensF P (f :: fs) (Kd.pair d d') (fun x => g x.1 ∧ g' x.2) off := fun H enc fuel w cs xs hl hx hn => by
  match xs, hn with
  | x :: xs, hn =>
    have h0 := hx 0 f rfl
    rw [ho, hsz] at h0
    obtain ⟨a, hK, hg⟩ := h H enc fuel w _ x h0
    have hl' : cs.length = off + (d.sz + d'.sz) := hl
    obtain ⟨b, hK', hg'⟩ := hf H enc fuel w cs xs (by omega) (fun i q hq => hx (i + 1) q hq) (by simpa using hn)
    refine ⟨(a, b), ⟨(cs.drop off).take d.sz, cs.drop (off + d.sz), ?_, hK, hK'⟩, hg, hg'⟩
    rw [← List.drop_drop, List.take_append_drop]
theorem opens_struct {α : Type} {t : TypeId} {fs : Array Field} {d : Kd α} {g : α → Prop} (hu : P.underlying t = some (.struct fs)) (hsz : P.cellsOf t = d.sz) (hf : OpensF P fs.toList d g 0) : Opens P t d g := fun H enc fuel w cs x hx => by
  obtain ⟨xs, m, rfl, _, hl, hlen, hel⟩ := DataW.trod_struct hu hx
  obtain ⟨a, hK, hg⟩ := hf H enc m w cs xs (by omega) (fun i f hi => hel i f (by rw [← Array.getElem?_toList]; exact hi)) (by simpa using hlen)
  exact ⟨a, hK, hg⟩
theorem opens_iso {α β : Type} {t : TypeId} {d : Kd α} {g : α → Prop} {f : β → α} (inv : α → β) (hi : ∀ x, f (inv x) = x) (h : Opens P t d g) : Opens P t (Kd.iso d f) (fun y => g (f y)) := fun H enc fuel w cs x hx => by
  obtain ⟨a, hK, hg⟩ := h H enc fuel w cs x hx
  refine ⟨inv a, ?_, by show g (f (inv a)); rw [hi]; exact hg⟩
  show d.K w (f (inv a)) cs
  rw [hi]
  exact hK
end
end Go.Proofs.YtnbghhddmlohoaaDoor.RowOpen

end

section
namespace Go.Proofs.YtnbghhddmlohoaaDoor.policyNeverOp
open Go.RowKit Go.Proofs.YtnbghhddmlohoaaDoor.PAll Go.Proofs.YtnbghhddmlohoaaDoorW.PrintWords Go.Proofs.YtnbghhddmlohoaaDoor.RowOpen
def G53 (y : S53) : Prop := y.f0.size ≤ maxLen ∧ (y.f1.length ≤ maxLen ∧ ∀ y4 ∈ y.f1, y4.size ≤ maxLen)
theorem o53 : Opens Tryd.prog 53 k53 G53 := Opens.imp (opens_iso (f := fun x : S53 => (x.f0, x.f1)) (fun x => (⟨x.1, x.2⟩ : S53)) (fun _ => rfl) (opens_struct Tryd.underlying53 (by kernel_rfl) (opensF_cons rfl (by kernel_rfl) (opens_string Tryd.underlying9) (opensF_one rfl (by kernel_rfl) (opens_slice Tryd.underlying23 (by kernel_rfl) (opens_string Tryd.underlying9)))))) (fun y h => h)
def G25 (y : S25) : Prop := (y.f0.length ≤ maxLen ∧ ∀ y4 ∈ y.f0, G53 y4) ∧ (y.f1.length ≤ maxLen ∧ ∀ y4 ∈ y.f1, y4.size ≤ maxLen) ∧ (y.f2.length ≤ maxLen ∧ ∀ y4 ∈ y.f2, y4.size ≤ maxLen) ∧ (y.f3.length ≤ maxLen ∧ ∀ y4 ∈ y.f3, y4.size ≤ maxLen) ∧ (Lit.int .i64 y.f4).wf = true
theorem o25 : Opens Tryd.prog 25 k25 G25 := Opens.imp (opens_iso (f := fun x : S25 => (x.f0, x.f1, x.f2, x.f3, x.f4)) (fun x => (⟨x.1, x.2.1, x.2.2.1, x.2.2.2.1, x.2.2.2.2⟩ : S25)) (fun _ => rfl) (opens_struct Tryd.underlying25 (by kernel_rfl) (opensF_cons rfl (by kernel_rfl) (opens_slice Tryd.underlying22 (by kernel_rfl) o53) (opensF_cons rfl (by kernel_rfl) (opens_slice Tryd.underlying23 (by kernel_rfl) (opens_string Tryd.underlying9)) (opensF_cons rfl (by kernel_rfl) (opens_slice Tryd.underlying23 (by kernel_rfl) (opens_string Tryd.underlying9)) (opensF_cons rfl (by kernel_rfl) (opens_slice Tryd.underlying23 (by kernel_rfl) (opens_string Tryd.underlying9)) (opensF_one rfl (by kernel_rfl) (opens_int Tryd.underlying3)))))))) (fun y h => h)
def G35 (y : S35) : Prop := y.f0.size ≤ maxLen ∧ y.f1.size ≤ maxLen
theorem o35 : Opens Tryd.prog 35 k35 G35 := Opens.imp (opens_iso (f := fun x : S35 => (x.f0, x.f1)) (fun x => (⟨x.1, x.2⟩ : S35)) (fun _ => rfl) (opens_struct Tryd.underlying35 (by kernel_rfl) (opensF_cons rfl (by kernel_rfl) (opens_string Tryd.underlying9) (opensF_one rfl (by kernel_rfl) (opens_string Tryd.underlying9))))) (fun y h => h)
def Plain : Prop := ∀ (x0 : S25) (a1 : ByteArray) (x2 : S35), G25 x0 → a1.size ≤ maxLen → G35 x2 → ∃ k, marginalialaw11_PolicyNever.f k x0.f0 x0.f1 x0.f2 x0.f3 x0.f4 a1 x2.f0 x2.f1 = some true
end Go.Proofs.YtnbghhddmlohoaaDoor.policyNeverOp

end

section
namespace Go.Proofs.YtnbghhddmlohoaaDoor.Pure
open Go.RowKit Go.Proofs.YtnbghhddmlohoaaDoor.PAll Go.Proofs.YtnbghhddmlohoaaDoorW.PrintWords Go.Proofs.YtnbghhddmlohoaaDoorW.PrintLast

theorem wrap_next {i : Nat} (h : i < 9223372036854775807) : wrap64 ((i : Int) + 1) = ((i + 1 : Nat) : Int) := by
  unfold wrap64
  omega
theorem bytes_data (s : ByteArray) : s.toList = s.data.toList := ByteArray.toList_eq s
theorem data_len (s : ByteArray) : s.data.toList.length = s.size := by simp
theorem bt_get (s : ByteArray) (i : Nat) (c : UInt8) (h : s.data.toList[i]? = some c) : bt s (i : Int) = (c.toNat : Int) := by
  obtain ⟨h1, h2⟩ := List.getElem?_eq_some_iff.1 h
  have h3 : i < s.size := by simpa using h1
  unfold bt
  rw [dif_pos (by omega), ← h2]
  rfl
theorem ext_take (s : ByteArray) (a b : Nat) : (s.extract a b).data.toList = (s.data.toList.drop a).take (b - a) := by
  have e : (s.extract a b).data = s.data.extract a b := by simp
  rw [e, Array.toList_extract, List.extract_eq_take_drop]
theorem ba_ext {a b : ByteArray} (h : a.data.toList = b.data.toList) : a = b := by
  obtain ⟨⟨a⟩⟩ := a
  obtain ⟨⟨b⟩⟩ := b
  simp at h
  rw [h]
def sLet (c : UInt8) : Bool := decide (65 ≤ c.toNat ∧ c.toNat ≤ 90) || decide (97 ≤ c.toNat ∧ c.toNat ≤ 122)
def sFig (c : UInt8) : Bool := decide (48 ≤ c.toNat ∧ c.toNat ≤ 57)
def sPart (c : UInt8) : Bool := sLet c || (sFig c || (c == 43 || (c == 45 || c == 46)))
theorem u8_all {p : UInt8 → Prop} (h : ∀ n, n < 256 → p (UInt8.ofNat n)) (c : UInt8) : p c := by
  have := h c.toNat c.toNat_lt
  simpa using this
theorem letter_f (c : UInt8) : kind_Letter.f (c.toNat : Int) = some (sLet c) := by
  revert c
  apply u8_all
  decide +kernel
theorem part_f (c : UInt8) : scheme_part.f (c.toNat : Int) = some (sPart c) := by
  revert c
  apply u8_all
  decide +kernel
def schN : List UInt8 → Option (List UInt8)
  | [] => none
  | c :: r => if sLet c = true ∧ (c :: r).all sPart = true then some ((c :: r).map lowB) else none
def schL (t : List UInt8) : Option (List UInt8) :=
  if (58 : UInt8) ∈ t then schN (t.takeWhile (· != 58)) else none
def ofS (s : ByteArray) : Option (List UInt8) := schL (tidyL s.data.toList)
def ofR (o : Option (List UInt8)) : ByteArray × Bool := match o with
  | none => (⟨#[]⟩, false)
  | some l => (⟨l.toArray⟩, true)
theorem idx_none (t : List UInt8) (h : (58 : UInt8) ∉ t) : Lib.indexByte t 58 = -1 := by
  induction t with
  | nil => rfl
  | cons c r ih =>
    simp at h
    unfold Lib.indexByte
    rw [if_neg (by simp; exact fun e => h.1 e.symm), ih h.2]
    rfl
theorem idx_some (t : List UInt8) (h : (58 : UInt8) ∈ t) : Lib.indexByte t 58 = ((t.takeWhile (· != 58)).length : Int) := by
  induction t with
  | nil => simp at h
  | cons c r ih =>
    unfold Lib.indexByte
    by_cases e : c = 58
    · subst e; simp
    · have h' : (58 : UInt8) ∈ r := by
        rcases List.mem_cons.1 h with h | h
        · exact absurd h.symm e
        · exact h
      have he : ¬ ((c == 58) = true) := by rw [beq_iff_eq]; exact e
      rw [if_neg he, ih h', List.takeWhile_cons_of_pos (by simpa using e)]
      have hn : ¬ ((((List.takeWhile (· != 58) r).length : Int) == -1) = true) := by rw [beq_iff_eq]; omega
      rw [if_neg hn]
      simp only [List.length_cons]
      omega
theorem take_eq (t : List UInt8) : t.take (t.takeWhile (· != 58)).length = t.takeWhile (· != 58) := (List.prefix_iff_eq_take.1 (List.takeWhile_prefix _)).symm
theorem cut_none (t : ByteArray) (h : (58 : UInt8) ∉ t.data.toList) : strings_Cut.f t ⟨#[58]⟩ = some (t, ⟨#[]⟩, false) := by
  unfold strings_Cut.f stringslite_Cut.f stringslite_Index.f
  rw [if_pos (show (⟨#[58]⟩ : ByteArray).data.size = 1 from rfl)]
  simp only [List.headD_cons, Option.bind_some, idx_none _ h]
  rfl
theorem cut_some (t : ByteArray) (hs : t.size ≤ 1000000) (h : (58 : UInt8) ∈ t.data.toList) : ∃ x, strings_Cut.f t ⟨#[58]⟩ = some (⟨(t.data.toList.takeWhile (· != 58)).toArray⟩, x, true) := by
  have hl := (List.takeWhile_prefix (p := fun c : UInt8 => c != 58) (l := t.data.toList)).length_le
  rw [data_len] at hl
  have hlt : (t.data.toList.takeWhile (· != 58)).length < t.size := by
    have h2 := idx_some _ h
    have : (t.data.toList.takeWhile (· != 58)) ≠ t.data.toList := by
      intro e
      rw [← e] at h
      have := List.all_eq_true.1 (List.all_takeWhile (p := fun c : UInt8 => c != 58) (l := t.data.toList)) 58 h
      simp at this
    rcases Nat.lt_or_ge (t.data.toList.takeWhile (· != 58)).length t.size with h3 | h3
    · exact h3
    · refine absurd ?_ this
      rw [← take_eq]
      exact List.take_of_length_le (by rw [data_len]; exact h3)
  unfold strings_Cut.f stringslite_Cut.f stringslite_Index.f
  rw [if_pos (show (⟨#[58]⟩ : ByteArray).data.size = 1 from rfl)]
  simp only [List.headD_cons, Option.bind_some, idx_some _ h]
  have e1 : ((⟨#[58]⟩ : ByteArray).size : Int) = 1 := rfl
  rw [e1, wrap_next (by omega)]
  rw [if_pos (by omega), if_pos (by omega), if_pos (by omega), if_pos (by omega), if_pos (by omega)]
  refine ⟨t.extract (((t.data.toList.takeWhile (· != 58)).length + 1 : Nat) : Int).toNat t.size, ?_⟩
  simp only [Option.bind_some]
  congr 1
  congr 1
  apply ba_ext
  rw [ext_take]
  simp only [List.drop_zero, Int.toNat_natCast, Nat.sub_zero]
  exact take_eq _
theorem of_l0 (x : ByteArray) (hs : x.size ≤ 1000000) : ∀ (d i : Nat), i + d = x.size →
    Ev (fun k => scheme_Of.l0 k x (x.size : Int) (i : Int)) (if (x.data.toList.drop i).all sPart = true then (⟨(x.data.toList.map lowB).toArray⟩, true) else (⟨#[]⟩, false)) := by
  intro d
  induction d with
  | zero =>
    intro i hi
    refine Ev.step (f := fun _ => some (⟨(x.data.toList.map lowB).toArray⟩, true)) (fun k => ?_) ?_
    · simp only [scheme_Of.l0, kind_Lower.f]
      rw [if_neg (by omega), if_pos (by omega)]
      simp only [Option.bind_some, lowS]
      congr 2
      apply ba_ext
      simp
    · rw [List.drop_of_length_le (by rw [data_len]; omega)]
      exact Ev.now _
  | succ d ih =>
    intro i hi
    have hg : x.data.toList[i]? = some (x.data.toList[i]'(by rw [data_len]; omega)) := List.getElem?_eq_getElem _
    generalize hc : x.data.toList[i]'(by rw [data_len]; omega) = c at hg
    have hd : x.data.toList.drop i = c :: x.data.toList.drop (i + 1) := by
      rw [List.drop_eq_getElem_cons (by rw [data_len]; omega), hc]
    by_cases hp : sPart c = true
    · refine Ev.step (f := fun k => scheme_Of.l0 k x (x.size : Int) ((i + 1 : Nat) : Int)) (fun k => ?_) ?_
      · simp only [scheme_Of.l0]
        rw [if_pos (by omega), if_pos (by omega), if_pos (by omega), bt_get x i c hg, part_f, hp, wrap_next (by omega)]
        simp
      · rw [hd, List.all_cons, hp, Bool.true_and]
        exact ih (i + 1) (by omega)
    · replace hp := Bool.eq_false_iff.mpr hp
      refine Ev.step (f := fun k => some (⟨#[]⟩, false)) (fun k => ?_) ?_
      · simp only [scheme_Of.l0]
        rw [if_pos (by omega), if_pos (by omega), if_pos (by omega), bt_get x i c hg, part_f, hp]
        simp
      · rw [hd, List.all_cons, hp, Bool.false_and]
        exact Ev.now _
theorem tidyL_len (l : List UInt8) : (tidyL l).length ≤ l.length :=
  Nat.le_trans (List.length_filter_le _ _) (List.dropWhile_suffix _).length_le
theorem of_ev (s : ByteArray) (hs : s.size ≤ 1000000) : Ev (fun k => scheme_Of.f k s) (ofR (ofS s)) := by
  have ht : scheme_tidy.f s = some ⟨(tidyL s.data.toList).toArray⟩ := by
    unfold scheme_tidy.f
    rw [if_pos (by omega)]
  unfold ofS
  have hlen := tidyL_len s.data.toList
  rw [data_len] at hlen
  generalize tidyL s.data.toList = t at ht hlen
  unfold scheme_Of.f
  rw [ht]
  simp only [Option.bind_some]
  have hT : (⟨t.toArray⟩ : ByteArray).data.toList = t := rfl
  have hsz : (⟨t.toArray⟩ : ByteArray).size = t.length := rfl
  by_cases h : (58 : UInt8) ∈ t
  · obtain ⟨x, hx⟩ := cut_some ⟨t.toArray⟩ (by rw [hsz]; omega) h
    rw [hx]
    simp only [Option.bind_some, if_true]
    unfold schL
    rw [if_pos h]
    have hl := (List.takeWhile_prefix (p := fun c : UInt8 => c != 58) (l := t)).length_le
    generalize List.takeWhile (· != 58) t = nm at hl
    have hN : (⟨nm.toArray⟩ : ByteArray).data.toList = nm := rfl
    have hNs : (⟨nm.toArray⟩ : ByteArray).size = nm.length := rfl
    rw [bytes_data, hN]
    cases nm with
    | nil =>
      refine Ev.step (f := fun _ => some (⟨#[]⟩, false)) (fun k => ?_) (Ev.now _)
      rw [if_pos rfl]
      rfl
    | cons c r =>
      have hb : bt ⟨(c :: r).toArray⟩ 0 = (c.toNat : Int) := bt_get ⟨(c :: r).toArray⟩ 0 c rfl
      refine Ev.congr (f := fun k => scheme_Of.j0 k ⟨(c :: r).toArray⟩ (!sLet c)) (fun k => ?_) ?_
      · rw [if_neg (by simp), if_pos (by rw [hNs, List.length_cons]; omega), hb, letter_f]
        rfl
      · by_cases hl1 : sLet c = true
        · rw [hl1]
          refine Ev.step (f := fun k => scheme_Of.l0 k ⟨(c :: r).toArray⟩ ((⟨(c :: r).toArray⟩ : ByteArray).size : Int) ((0 : Nat) : Int)) (fun k => ?_) ?_
          · simp [scheme_Of.j0]
          · have := of_l0 ⟨(c :: r).toArray⟩ (by rw [hNs]; omega) (⟨(c :: r).toArray⟩ : ByteArray).size 0 (by omega)
            rw [List.drop_zero, hN] at this
            by_cases ha : (c :: r).all sPart = true
            · rw [if_pos ha] at this; rw [schN, if_pos ⟨hl1, ha⟩]; exact this
            · rw [if_neg ha] at this; rw [schN, if_neg (fun e => ha e.2)]; exact this
        · replace hl1 := Bool.eq_false_iff.mpr hl1
          rw [hl1]
          refine Ev.step (f := fun k => some (⟨#[]⟩, false)) (fun k => ?_) ?_
          · simp [scheme_Of.j0]
          · rw [schN, if_neg (by rw [hl1]; simp)]
            exact Ev.now _
  · rw [cut_none ⟨t.toArray⟩ h]
    simp only [Option.bind_some]
    unfold schL
    rw [if_neg h]
    refine Ev.step (f := fun _ => some (⟨#[]⟩, false)) (fun k => ?_) (Ev.now _)
    rfl
def safeS (s : ByteArray) (l : List ByteArray) : Bool := match ofS s with
  | none => true
  | some t => l.any fun x => x.data.toList == t
theorem rd_at (l : List ByteArray) (i : Nat) (h : i < l.length) : rdOf ByteArray.empty l (i : Int) = l[i] := by
  simp [rdOf, List.getD_eq_getElem?_getD, h]
theorem index_l0 (l : List ByteArray) (x : ByteArray) (hl : l.length ≤ 1000000) : ∀ (d i : Nat), i + d = l.length →
    ∃ n : Int, Ev (fun k => slices_Index_string_string.l0 k l x (l.length : Int) (i : Int)) n ∧ decide (n ≥ 0) = (l.drop i).any (fun y => y.data.toList == x.data.toList) := by
  intro d
  induction d with
  | zero =>
    intro i hi
    refine ⟨-1, Ev.step (f := fun _ => some (-1)) (fun k => ?_) (Ev.now _), ?_⟩
    · simp only [slices_Index_string_string.l0]
      rw [if_neg (by omega)]
    · rw [List.drop_of_length_le (by omega)]; rfl
  | succ d ih =>
    intro i hi
    have hlt : i < l.length := by omega
    rw [List.drop_eq_getElem_cons hlt, List.any_cons]
    by_cases h : l[i].data.toList = x.data.toList
    · refine ⟨(i : Int), Ev.step (f := fun _ => some (i : Int)) (fun k => ?_) (Ev.now _), ?_⟩
      · simp only [slices_Index_string_string.l0]
        rw [if_pos (by omega), if_pos (by omega), if_pos (by omega), rd_at l i hlt, bytes_data, bytes_data, if_pos h.symm]
      · rw [h, beq_self_eq_true, Bool.true_or, decide_eq_true (by omega)]
    · obtain ⟨n, h1, h2⟩ := ih (i + 1) (by omega)
      refine ⟨n, Ev.step (f := fun k => slices_Index_string_string.l0 k l x (l.length : Int) ((i + 1 : Nat) : Int)) (fun k => ?_) h1, ?_⟩
      · simp only [slices_Index_string_string.l0]
        rw [if_pos (by omega), if_pos (by omega), if_pos (by omega), rd_at l i hlt, bytes_data, bytes_data, if_neg (fun e => h e.symm), wrap_next (by omega)]
      · have e : (l[i].data.toList == x.data.toList) = false := beq_eq_false_iff_ne.mpr h
        rw [h2, e, Bool.false_or]
theorem contains_ev (l : List ByteArray) (x : ByteArray) (hl : l.length ≤ 1000000) : Ev (fun k => slices_Contains_string_string.f k l x) (l.any fun y => y.data.toList == x.data.toList) := by
  obtain ⟨n, h1, h2⟩ := index_l0 l x hl l.length 0 (by omega)
  rw [List.drop_zero] at h2
  rw [← h2]
  unfold slices_Contains_string_string.f
  exact Ev.bind (f := fun _ t => some (decide (t ≥ 0))) h1 (Ev.now _)
theorem safe_ev (s : ByteArray) (l : List ByteArray) (hs : s.size ≤ 1000000) (hl : l.length ≤ 1000000) : Ev (fun k => scheme_Safe.f k s l) (safeS s l) := by
  unfold scheme_Safe.f safeS
  have h := of_ev s hs
  cases ho : ofS s with
  | none =>
    rw [ho] at h
    refine Ev.bind (f := fun k bt => if bt.2 = true then ((slices_Contains_string_string.f k l bt.1).bind fun t118 => some t118) else some true) h ?_
    exact Ev.congr (f := fun _ => some true) (fun k => rfl) (Ev.now _)
  | some t =>
    rw [ho] at h
    refine Ev.bind (f := fun k bt => if bt.2 = true then ((slices_Contains_string_string.f k l bt.1).bind fun t118 => some t118) else some true) h ?_
    exact Ev.bind (f := fun _ t => some t) (contains_ev l ⟨t.toArray⟩ hl) (Ev.now _)
def w_raw : List (List UInt8) := [[105, 102, 114, 97, 109, 101], [110, 111, 101, 109, 98, 101, 100], [110, 111, 102, 114, 97, 109, 101, 115], [115, 99, 114, 105, 112, 116], [115, 116, 121, 108, 101], [120, 109, 112]]
def w_rcdata : List (List UInt8) := [[116, 101, 120, 116, 97, 114, 101, 97], [116, 105, 116, 108, 101]]
def w_table : List (List UInt8) := [[99, 97, 112, 116, 105, 111, 110], [99, 111, 108], [99, 111, 108, 103, 114, 111, 117, 112], [116, 98, 111, 100, 121], [116, 100], [116, 102, 111, 111, 116], [116, 104], [116, 104, 101, 97, 100], [116, 114]]
def w_skip : List (List UInt8) := [[98, 111, 100, 121], [102, 114, 97, 109, 101], [102, 114, 97, 109, 101, 115, 101, 116], [104, 101, 97, 100], [104, 116, 109, 108]]

def setK (k : Int) : List (List UInt8) :=
  if k = 2 then w_raw else if k = 3 then w_rcdata else if k = 12 then w_table ++ w_skip else []
def inK (k : Int) (name : ByteArray) : Bool := (setK k).contains name.data.toList

theorem size_toList (s : ByteArray) : s.toList.length = s.size := by rw [bytes_data]; simp
theorem bt_nat (s : ByteArray) (i : Nat) (h : i < s.size) : bt s (i : Int) = ((s.toList.getD i 0).toNat : Int) := by
  have h' : i < s.data.size := h
  rw [bytes_data]
  simp [bt, h, List.getD_eq_getElem?_getD]
  rfl
theorem among_l0 (a0 : ByteArray) (xs : List ByteArray) (hx : xs.length ≤ 1000000) : ∀ (d i k : Nat), i + d = xs.length → d < k →
    kind_among.l0 k a0 xs (xs.length : Int) (i : Int) = some ((xs.drop i).any fun s => s.toList == a0.toList) := by
  intro d
  induction d with
  | zero =>
    intro i k hi hk
    obtain ⟨k, rfl⟩ : ∃ m, k = m + 1 := ⟨k - 1, by omega⟩
    simp only [kind_among.l0]
    rw [if_neg (by omega), List.drop_of_length_le (by omega)]
    rfl
  | succ d ih =>
    intro i k hi hk
    obtain ⟨k, rfl⟩ : ∃ m, k = m + 1 := ⟨k - 1, by omega⟩
    have hlt : i < xs.length := by omega
    simp only [kind_among.l0]
    rw [if_pos (by omega), if_pos (by omega), if_pos (by omega), wrap_next (by omega), ih (i + 1) k (by omega) (by omega)]
    have e : rdOf ByteArray.empty xs (i : Int) = xs[i] := by simp [rdOf, List.getD_eq_getElem?_getD, hlt]
    rw [e, List.drop_eq_getElem_cons hlt, List.any_cons]
    by_cases h : xs[i].toList = a0.toList
    · rw [if_pos h]; simp [h]
    · rw [if_neg h]; simp [h]
theorem among_ev (a0 : ByteArray) (xs : List ByteArray) (hx : xs.length ≤ 1000000) : Ev (fun k => kind_among.f k a0 xs) ((xs.map fun s => s.data.toList).contains a0.data.toList) := by
  refine ⟨xs.length + 1, fun k hk => ?_⟩
  have h := among_l0 a0 xs hx xs.length 0 k (by omega) (by omega)
  unfold kind_among.f
  rw [List.drop_zero] at h
  refine Eq.trans h ?_
  congr 1
  rw [List.contains_eq_any_beq, List.any_map]
  apply congrArg (fun p => List.any xs p)
  funext s
  rw [bytes_data, bytes_data]
  exact Bool.beq_comm
theorem raw_ev (a0 : ByteArray) : Ev (fun k => kind_raw.f k a0) (w_raw.contains a0.data.toList) := by
  unfold kind_raw.f
  refine Ev.bind (among_ev a0 _ (by decide)) ?_
  exact ⟨0, fun _ _ => rfl⟩
theorem rcdata_ev (a0 : ByteArray) : Ev (fun k => kind_rcdata.f k a0) (w_rcdata.contains a0.data.toList) := by
  unfold kind_rcdata.f
  refine Ev.bind (among_ev a0 _ (by decide)) ?_
  exact ⟨0, fun _ _ => rfl⟩
theorem table_ev (a0 : ByteArray) : Ev (fun k => kind_table.f k a0) (w_table.contains a0.data.toList) := by
  unfold kind_table.f
  refine Ev.bind (among_ev a0 _ (by decide)) ?_
  exact ⟨0, fun _ _ => rfl⟩
theorem Ev.or {g : Nat → Option Bool} {f : Nat → Option Bool} {b c : Bool} (h : Ev g b) (h' : Ev f c) : Ev (fun n => (g n).bind fun t => if t = true then some true else f n) (b || c) := by
  refine Ev.bind h ?_
  cases b with
  | true => exact ⟨0, fun _ _ => rfl⟩
  | false => exact Ev.congr (fun _ => rfl) h'
theorem Ev.pass {g : Nat → Option Bool} {b : Bool} (h : Ev g b) : Ev (fun n => (g n).bind fun t => some t) b := by
  refine Ev.bind h ?_
  exact ⟨0, fun _ _ => rfl⟩
theorem contains_append (a b : List (List UInt8)) (x : List UInt8) : (a ++ b).contains x = (a.contains x || b.contains x) := by
  simp
theorem is_ev (k0 : Int) (a1 : ByteArray) (h : k0 = 2 ∨ k0 = 3 ∨ k0 = 12 := by decide) : Ev (fun k => kind_Is.f k k0 a1) (inK k0 a1) := by
  unfold inK
  rcases h with rfl | rfl | rfl
  · exact Ev.congr (fun _ => rfl) (Ev.pass (raw_ev a1))
  · exact Ev.congr (fun _ => rfl) (Ev.pass (rcdata_ev a1))
  · have e : setK 12 = w_table ++ w_skip := rfl
    rw [e, contains_append]
    exact Ev.congr (fun _ => rfl) (Ev.or (table_ev a1) (Ev.pass (among_ev a1 _ (by decide))))
theorem Ev.way {α : Type} {g : Nat → Option Bool} {b : Bool} {X Y : Nat → Option α} {r : α} (h : Ev g b) (hx : b = true → Ev X r) (hy : b = false → Ev Y r) :
    Ev (fun n => (g n).bind fun t => if t = true then X n else Y n) r := by
  cases b with
  | true => exact Ev.bind (f := fun n t => if t = true then X n else Y n) h (Ev.congr (fun k => if_pos rfl) (hx rfl))
  | false => exact Ev.bind (f := fun n t => if t = true then X n else Y n) h (Ev.congr (fun k => if_neg (by decide)) (hy rfl))
def memB (l : List ByteArray) (x : ByteArray) : Bool := l.any fun y => y.data.toList == x.data.toList
def nmGo : List ByteArray → List ByteArray → Bool
  | _, [] => true
  | pre, x :: r => nameB x && (!memB pre x && nmGo (pre ++ [x]) r)
def namesS (l : List ByteArray) : Bool := nmGo [] l
theorem take_next (l : List ByteArray) (i : Nat) (h : i < l.length) : l.take i ++ [l[i]] = l.take (i + 1) := by
  rw [List.take_add_one, List.getElem?_eq_getElem h]; rfl
theorem areNames_l0 (l : List ByteArray) (hl : l.length ≤ 1000000) : ∀ (d i : Nat), i + d = l.length → Ev (fun k => policy_areNames.l0 k l l (l.length : Int) (i : Int)) (nmGo (l.take i) (l.drop i)) := by
  intro d
  induction d with
  | zero =>
    intro i hi
    refine Ev.step (f := fun _ => some true) (fun k => ?_) ?_
    · simp only [policy_areNames.l0]
      rw [if_neg (by omega)]
    · rw [List.drop_of_length_le (by omega)]; exact Ev.now _
  | succ d ih =>
    intro i hi
    have hlt : i < l.length := by omega
    rw [List.drop_eq_getElem_cons hlt]
    refine Ev.step (f := fun k => (policy_isName.f l[i]).bind fun t => if t = true then ((slices_Contains_string_string.f k (l.take i) l[i]).bind fun t2 => if t2 = true then some false else policy_areNames.l0 k l l (l.length : Int) ((i + 1 : Nat) : Int)) else some false) (fun k => ?_) ?_
    · simp only [policy_areNames.l0]
      rw [if_pos (by omega), if_pos (by omega), if_pos (by omega), rd_at l i hlt, wrap_next (by omega), if_pos (show (i : Int) ≤ (l.length : Int) by omega)]
      rfl
    · unfold nmGo
      refine Ev.way (g := fun _ => policy_isName.f l[i]) (b := nameB l[i]) ⟨0, fun _ _ => rfl⟩ (fun hn => ?_) (fun hn => ?_)
      · refine Ev.way (contains_ev (l.take i) l[i] (by rw [List.length_take]; omega)) (fun hm => ?_) (fun hm => ?_)
        · rw [hn, show memB (l.take i) l[i] = true from hm]; exact Ev.now _
        · rw [hn, show memB (l.take i) l[i] = false from hm, take_next l i hlt]; exact ih (i + 1) (by omega)
      · rw [hn]; exact Ev.now _
theorem areNames_ev (l : List ByteArray) (hl : l.length ≤ 1000000) : Ev (fun k => policy_areNames.f k l) (namesS l) := by
  have h := areNames_l0 l hl l.length 0 (by omega)
  rw [List.take_zero, List.drop_zero] at h
  exact h
def hardN : List (List UInt8) := [[109, 97, 116, 104], [110, 111, 115, 99, 114, 105, 112, 116], [112, 108, 97, 105, 110, 116, 101, 120, 116], [115, 118, 103], [116, 101, 109, 112, 108, 97, 116, 101]]
def neverS (s : ByteArray) : Bool := hardN.contains s.data.toList || (inK 2 s || (inK 3 s || inK 12 s))
theorem never_j0 (s : ByteArray) (b : Bool) : Ev (fun k => policy_never.j0 k s b) (b || (inK 2 s || (inK 3 s || inK 12 s))) := by
  refine Ev.step (f := fun k => if b = true then some true else ((kind_Is.f k 2 s).bind fun t => if t = true then some true else ((kind_Is.f k 3 s).bind fun t => if t = true then some true else ((kind_Is.f k 12 s).bind fun t => some t)))) (fun k => by simp only [policy_never.j0]) ?_
  cases b with
  | true => exact Ev.congr (fun k => if_pos rfl) (Ev.now _)
  | false =>
    refine Ev.congr (fun k => if_neg (by decide)) ?_
    rw [Bool.false_or]
    exact Ev.or (is_ev 2 s) (Ev.or (is_ev 3 s) (Ev.pass (is_ev 12 s)))
theorem never_ev (s : ByteArray) : Ev (fun k => policy_never.f k s) (neverS s) := by
  have hc : ∀ L : List UInt8, (s.data.toList == L) = (s.toList == L) := fun L => by rw [bytes_data]
  have e : neverS s = (s.toList == [109, 97, 116, 104] || (s.toList == [110, 111, 115, 99, 114, 105, 112, 116] || (s.toList == [112, 108, 97, 105, 110, 116, 101, 120, 116] || (s.toList == [115, 118, 103] || (s.toList == [116, 101, 109, 112, 108, 97, 116, 101]))))
      || (inK 2 s || (inK 3 s || inK 12 s))) := by
    unfold neverS hardN
    simp only [List.contains_cons, List.contains_nil, Bool.or_false, hc]
  rw [e]
  unfold policy_never.f
  by_cases h1 : s.toList = ([109, 97, 116, 104] : List UInt8)
  · rw [h1]
    exact Ev.congr (fun k => if_pos rfl) (never_j0 s true)
  · rw [beq_eq_false_iff_ne.mpr h1, Bool.false_or]
    refine Ev.congr (fun k => if_neg h1) ?_
    by_cases h2 : s.toList = ([110, 111, 115, 99, 114, 105, 112, 116] : List UInt8)
    · rw [h2]
      exact Ev.congr (fun k => if_pos rfl) (never_j0 s true)
    · rw [beq_eq_false_iff_ne.mpr h2, Bool.false_or]
      refine Ev.congr (fun k => if_neg h2) ?_
      by_cases h3 : s.toList = ([112, 108, 97, 105, 110, 116, 101, 120, 116] : List UInt8)
      · rw [h3]
        exact Ev.congr (fun k => if_pos rfl) (never_j0 s true)
      · rw [beq_eq_false_iff_ne.mpr h3, Bool.false_or]
        refine Ev.congr (fun k => if_neg h3) ?_
        by_cases h4 : s.toList = ([115, 118, 103] : List UInt8)
        · rw [h4]
          exact Ev.congr (fun k => if_pos rfl) (never_j0 s true)
        · rw [beq_eq_false_iff_ne.mpr h4, Bool.false_or]
          exact Ev.congr (fun k => if_neg h4) (never_j0 s _)
def restB (dr : List ByteArray) (x : S53) : Bool := !neverS x.f0 && (!memB dr x.f0 && (namesS x.f1 && !x.f1.any actsB))
def chkGo (dr : List ByteArray) : List ByteArray → List S53 → Bool
  | all, [] => namesS all
  | all, x :: r => restB dr x && chkGo dr (all ++ [x.f0]) r
theorem rdT_at (l : List S53) (i : Nat) (h : i < l.length) : rd_T53 l (i : Int) = l[i] := by
  simp [rd_T53, List.getD_eq_getElem?_getD, h]
def okE (b : Bool) : Int := if b = true then 0 else 1
theorem check_l0 (l : List S53) (l1 l2 l3 : List ByteArray) (d0 : Int) (hl : l.length ≤ 1000) (h3 : l3.length ≤ 1000) (ha : ∀ x ∈ l, x.f1.length ≤ 1000) : ∀ (d i : Nat) (all : List ByteArray), i + d = l.length → all.length = i →
    Ev (fun k => policy_Check.l0 k all l (l.length : Int) (i : Int) l l1 l2 l3 d0) (okE (chkGo l3 all (l.drop i))) := by
  intro d
  induction d with
  | zero =>
    intro i all hi hall
    refine Ev.step (f := fun k => (policy_areNames.f k all).bind fun t => if t = true then some 0 else some 1) (fun k => ?_) ?_
    · simp only [policy_Check.l0]
      rw [if_neg (by omega)]
    · rw [List.drop_of_length_le (by omega)]
      show Ev _ (okE (namesS all))
      refine Ev.way (areNames_ev all (by omega)) (fun h => ?_) (fun h => ?_)
      · rw [h]; exact Ev.now _
      · rw [h]; exact Ev.now _
  | succ d ih =>
    intro i all hi hall
    have hlt : i < l.length := by omega
    rw [List.drop_eq_getElem_cons hlt]
    have hf1 : l[i].f1.length ≤ 1000 := ha _ (List.getElem_mem hlt)
    refine Ev.step (f := fun k => (policy_never.f k l[i].f0).bind fun t => if t = true then some 1 else ((slices_Contains_string_string.f k l3 l[i].f0).bind fun t => if t = true then some 1 else ((policy_areNames.f k l[i].f1).bind fun t => if t = true then ((cf_acts.f l[i].f1).bind fun t => if t = true then some 1 else policy_Check.l0 k (all ++ [l[i].f0]) l (l.length : Int) ((i + 1 : Nat) : Int) l l1 l2 l3 d0) else some 1))) (fun k => ?_) ?_
    · simp only [policy_Check.l0]
      rw [if_pos (by omega), if_pos (by omega), if_pos (by omega), rdT_at l i hlt, wrap_next (by omega), if_pos (show all.length < 8796093022208 by omega)]
    · unfold chkGo restB
      refine Ev.way (never_ev l[i].f0) (fun h => ?_) (fun h => ?_)
      · rw [h]; exact Ev.now _
      rw [h]
      refine Ev.way (contains_ev l3 l[i].f0 (by omega)) (fun h => ?_) (fun h => ?_)
      · rw [show memB l3 l[i].f0 = true from h]; exact Ev.now _
      rw [show memB l3 l[i].f0 = false from h]
      refine Ev.way (areNames_ev l[i].f1 (by omega)) (fun h => ?_) (fun h => ?_)
      · rw [h]
        refine Ev.way (g := fun _ => cf_acts.f l[i].f1) (b := l[i].f1.any actsB) ⟨0, fun _ _ => by unfold cf_acts.f; rw [if_pos hf1]⟩ (fun h => ?_) (fun h => ?_)
        · rw [h]; exact Ev.now _
        · rw [h]; exact ih (i + 1) (all ++ [l[i].f0]) (by omega) (by simp; omega)
      · rw [h]; exact Ev.now _
def headB (l1 l2 l3 : List ByteArray) (d : Int) : Bool := decide (1 ≤ d ∧ d ≤ 60) && (namesS l1 && (namesS l2 && (namesS l3 && !l2.any runsB)))
def checkS (l0 : List S53) (l1 l2 l3 : List ByteArray) (d : Int) : Int := if largeB l0 l1 l2 l3 = true then 4 else okE (headB l1 l2 l3 d && chkGo l3 [] l0)
structure SmallP (l0 : List S53) (l1 l2 l3 : List ByteArray) : Prop where
  b0 : l0.length ≤ 1000
  b1 : l1.length ≤ 1000
  b2 : l2.length ≤ 1000
  b3 : l3.length ≤ 1000
  ba : ∀ x ∈ l0, x.f1.length ≤ 1000
theorem check_ev (l0 : List S53) (l1 l2 l3 : List ByteArray) (d : Int) (hs : SmallP l0 l1 l2 l3) : Ev (fun k => policy_Check.f k l0 l1 l2 l3 d) (checkS l0 l1 l2 l3 d) := by
  obtain ⟨h0, h1, h2, h3, ha⟩ := hs
  have hj1 : Ev (fun k => policy_Check.j0 k true l0 l1 l2 l3 d) 1 := Ev.step (f := fun _ => some 1) (fun k => by simp only [policy_Check.j0]; rfl) (Ev.now _)
  have hj0 : Ev (fun k => policy_Check.j0 k false l0 l1 l2 l3 d) (okE (chkGo l3 [] l0)) := by
    refine Ev.step (f := fun k => policy_Check.l0 k [] l0 (l0.length : Int) 0 l0 l1 l2 l3 d) (fun k => by simp only [policy_Check.j0]; rfl) ?_
    have h := check_l0 l0 l1 l2 l3 d h0 h3 ha l0.length 0 [] (by omega) rfl
    rw [List.drop_zero] at h
    exact h
  unfold policy_Check.f checkS
  refine Ev.way (g := fun _ => policy_large.f l0 l1 l2 l3 d) (b := largeB l0 l1 l2 l3) ⟨0, fun _ _ => rfl⟩ (fun h => ?_) (fun h => ?_)
  · rw [if_pos h]; exact Ev.now _
  · rw [if_neg (by rw [h]; decide)]
    unfold headB
    by_cases hd1 : d < 1
    · rw [decide_eq_false (show ¬ (1 ≤ d ∧ d ≤ 60) by omega)]
      exact Ev.congr (fun k => if_pos hd1) hj1
    by_cases hd2 : d > 60
    · rw [decide_eq_false (show ¬ (1 ≤ d ∧ d ≤ 60) by omega)]
      exact Ev.congr (fun k => by rw [if_neg hd1, if_pos hd2]) hj1
    rw [decide_eq_true (show 1 ≤ d ∧ d ≤ 60 by omega)]
    refine Ev.congr (fun k => by rw [if_neg hd1, if_neg hd2]) ?_
    refine Ev.way (areNames_ev l1 (by omega)) (fun h => ?_) (fun h => ?_)
    · rw [h]
      refine Ev.way (areNames_ev l2 (by omega)) (fun h => ?_) (fun h => ?_)
      · rw [h]
        refine Ev.way (areNames_ev l3 (by omega)) (fun h => ?_) (fun h => ?_)
        · rw [h]
          refine Ev.bind (g := fun _ => cf_runs.f l2) (f := fun k t => policy_Check.j0 k t l0 l1 l2 l3 d) (a := l2.any runsB) ⟨0, fun _ _ => by unfold cf_runs.f; rw [if_pos h2]⟩ ?_
          cases h : l2.any runsB with
          | true => exact hj1
          | false => exact hj0
        · rw [h]; exact hj1
      · rw [h]; exact hj1
    · rw [h]; exact hj1
end Go.Proofs.YtnbghhddmlohoaaDoor.Pure

end

section
namespace Go.Proofs.YtnbghhddmlohoaaDoor.Pure
open Go.RowKit Go.Proofs.YtnbghhddmlohoaaDoor.PAll Go.Proofs.YtnbghhddmlohoaaDoorW.PrintWords Go.Proofs.YtnbghhddmlohoaaDoorW.PrintLast
set_option linter.unusedSimpArgs false
set_option linter.unusedVariables false

section
variable (l : List S53) (l1 l2 l3 : List ByteArray) (d0 : Int) (hs : SmallP l l1 l2 l3)
include hs
end
theorem chk_eq (dr : List ByteArray) : ∀ (r : List S53) (all : List ByteArray), chkGo dr all r = (r.all (restB dr) && namesS (all ++ r.map S53.f0))
  | [], all => by simp [chkGo]
  | x :: r, all => by
    unfold chkGo
    rw [chk_eq dr r (all ++ [x.f0]), List.all_cons, List.map_cons, List.append_assoc, List.singleton_append, Bool.and_assoc]
end Go.Proofs.YtnbghhddmlohoaaDoor.Pure

end

section
namespace Go.Proofs.YtnbghhddmlohoaaDoor.Pure
open Go.RowKit Go.Proofs.YtnbghhddmlohoaaDoor.PAll Go.Proofs.YtnbghhddmlohoaaDoorW.PrintWords Go.Proofs.YtnbghhddmlohoaaDoorW.PrintLast
theorem nodes_nil (l0 : List S53) (l1 l2 l3 : List ByteArray) (d n : Int) : policy_nodes.f l0 l1 l2 l3 d [] n = some true := by
  first | rfl | (unfold policy_nodes.f; rw [if_pos ⟨2, rfl⟩])
theorem al_zero : marginalialaw11_alive0.f 100 = some true := by
  unfold marginalialaw11_alive0.f policy_Allowed.f
  simp only [nodes_nil]
  kernel_rfl
theorem alive_ev : Ev (fun k => marginalialaw11_alive.f k) true := by
  refine Ev.of marginalialaw11_alive.mono (k := 100) ?_
  unfold marginalialaw11_alive.f
  rw [if_pos al_zero]
def textsS (l : List ByteArray) : Bool := decide (l.length ≤ 60) && l.all fun s => decide (s.size ≤ 60)
theorem texts_l0 (l : List ByteArray) (hl : l.length ≤ 1000) : ∀ (d i : Nat), i + d = l.length → Ev (fun k => marginaliaref11_texts.l0 k l (i : Int)) ((l.drop i).all fun s => decide (s.size ≤ 60)) := by
  intro d
  induction d with
  | zero =>
    intro i hi
    refine Ev.step (f := fun _ => some true) (fun k => ?_) ?_
    · simp only [marginaliaref11_texts.l0]
      rw [if_neg (show ¬ ((i : Int) < (l.length : Int)) by omega)]
    · rw [List.drop_of_length_le (by omega)]; exact Ev.now _
  | succ d ih =>
    intro i hi
    have hlt : i < l.length := by omega
    rw [List.drop_eq_getElem_cons hlt, List.all_cons]
    by_cases h : l[i].size ≤ 60
    · refine Ev.step (f := fun k => marginaliaref11_texts.l0 k l ((i + 1 : Nat) : Int)) (fun k => ?_) ?_
      · simp only [marginaliaref11_texts.l0]
        rw [if_pos (show (i : Int) < (l.length : Int) by omega), if_pos (show (0 : Int) ≤ (i : Int) by omega), rd_at l i hlt, if_neg (show ¬ ((l[i].size : Int) > 60) by omega), wrap_next (by omega)]
      · rw [decide_eq_true h, Bool.true_and]; exact ih (i + 1) (by omega)
    · refine Ev.step (f := fun _ => some false) (fun k => ?_) ?_
      · simp only [marginaliaref11_texts.l0]
        rw [if_pos (show (i : Int) < (l.length : Int) by omega), if_pos (show (0 : Int) ≤ (i : Int) by omega), rd_at l i hlt, if_pos (show (l[i].size : Int) > 60 by omega)]
      · rw [decide_eq_false h, Bool.false_and]; exact Ev.now _
theorem texts_ev (l : List ByteArray) : Ev (fun k => marginaliaref11_texts.f k l) (textsS l) := by
  unfold marginaliaref11_texts.f textsS
  by_cases h : (l.length : Int) > 60
  · rw [decide_eq_false (show ¬ l.length ≤ 60 by omega), Bool.false_and]
    exact Ev.congr (fun k => if_pos h) (Ev.now _)
  · rw [decide_eq_true (show l.length ≤ 60 by omega), Bool.true_and]
    have h0 := texts_l0 l (by omega) l.length 0 (by omega)
    rw [List.drop_zero] at h0
    exact Ev.congr (fun k => if_neg h) h0
def smallS (l0 : List S53) (l1 l2 l3 : List ByteArray) : Bool := decide (l0.length ≤ 60) && (textsS l1 && (textsS l2 && (textsS l3 && l0.all fun x => decide (x.f0.size ≤ 60) && textsS x.f1)))
theorem small_l0 (l : List S53) (l1 l2 l3 : List ByteArray) (d0 : Int) (hl : l.length ≤ 1000) : ∀ (d i : Nat), i + d = l.length → Ev (fun k => marginaliaref11_Small.l0 k (i : Int) l l1 l2 l3 d0) ((l.drop i).all fun x => decide (x.f0.size ≤ 60) && textsS x.f1) := by
  intro d
  induction d with
  | zero =>
    intro i hi
    refine Ev.step (f := fun _ => some true) (fun k => ?_) ?_
    · simp only [marginaliaref11_Small.l0]
      rw [if_neg (show ¬ ((i : Int) < (l.length : Int)) by omega)]
    · rw [List.drop_of_length_le (by omega)]; exact Ev.now _
  | succ d ih =>
    intro i hi
    have hlt : i < l.length := by omega
    rw [List.drop_eq_getElem_cons hlt, List.all_cons]
    by_cases h : l[i].f0.size ≤ 60
    · refine Ev.step (f := fun k => (marginaliaref11_texts.f k l[i].f1).bind fun t => if t = true then marginaliaref11_Small.l0 k ((i + 1 : Nat) : Int) l l1 l2 l3 d0 else some false) (fun k => ?_) ?_
      · simp only [marginaliaref11_Small.l0]
        rw [if_pos (show (i : Int) < (l.length : Int) by omega), if_pos (show (0 : Int) ≤ (i : Int) by omega), rdT_at l i hlt, if_neg (show ¬ ((l[i].f0.size : Int) > 60) by omega), wrap_next (by omega)]
      · rw [decide_eq_true h, Bool.true_and]
        refine Ev.way (texts_ev l[i].f1) (fun h => ?_) (fun h => ?_)
        · rw [h]; exact ih (i + 1) (by omega)
        · rw [h]; exact Ev.now _
    · refine Ev.step (f := fun _ => some false) (fun k => ?_) ?_
      · simp only [marginaliaref11_Small.l0]
        rw [if_pos (show (i : Int) < (l.length : Int) by omega), if_pos (show (0 : Int) ≤ (i : Int) by omega), rdT_at l i hlt, if_pos (show (l[i].f0.size : Int) > 60 by omega)]
      · rw [decide_eq_false h, Bool.false_and, Bool.false_and]; exact Ev.now _
theorem small_ev (l0 : List S53) (l1 l2 l3 : List ByteArray) (d : Int) : Ev (fun k => marginaliaref11_Small.f k l0 l1 l2 l3 d) (smallS l0 l1 l2 l3) := by
  have hjt : Ev (fun k => marginaliaref11_Small.j0 k true l0 l1 l2 l3 d) false := Ev.step (f := fun _ => some false) (fun k => by simp only [marginaliaref11_Small.j0]; rfl) (Ev.now _)
  unfold marginaliaref11_Small.f smallS
  by_cases h : (l0.length : Int) > 60
  · rw [decide_eq_false (show ¬ l0.length ≤ 60 by omega), Bool.false_and]
    exact Ev.congr (fun k => if_pos h) hjt
  · have hjf : Ev (fun k => marginaliaref11_Small.j0 k false l0 l1 l2 l3 d) (l0.all fun x => decide (x.f0.size ≤ 60) && textsS x.f1) := by
      refine Ev.step (f := fun k => marginaliaref11_Small.l0 k 0 l0 l1 l2 l3 d) (fun k => by simp only [marginaliaref11_Small.j0]; rfl) ?_
      have h0 := small_l0 l0 l1 l2 l3 d (by omega) l0.length 0 (by omega)
      rw [List.drop_zero] at h0
      exact h0
    rw [decide_eq_true (show l0.length ≤ 60 by omega), Bool.true_and]
    refine Ev.congr (fun k => if_neg h) ?_
    refine Ev.way (texts_ev l1) (fun h => ?_) (fun h => ?_)
    · rw [h]
      refine Ev.way (texts_ev l2) (fun h => ?_) (fun h => ?_)
      · rw [h]
        refine Ev.bind (f := fun k t => marginaliaref11_Small.j0 k (!t) l0 l1 l2 l3 d) (texts_ev l3) ?_
        cases textsS l3 with
        | true => exact hjf
        | false => exact hjt
      · rw [h]; exact hjt
    · rw [h]; exact hjt
theorem small_is {l0 : List S53} {l1 l2 l3 : List ByteArray} (h : smallS l0 l1 l2 l3 = true) : SmallP l0 l1 l2 l3 := by
  unfold smallS textsS at h
  simp only [Bool.and_eq_true, decide_eq_true_eq, List.all_eq_true] at h
  obtain ⟨h0, ⟨h1, _⟩, ⟨h2, _⟩, ⟨h3, _⟩, ha⟩ := h
  exact ⟨by omega, by omega, by omega, by omega, fun x hx => by have := (ha x hx).2.1; omega⟩
end Go.Proofs.YtnbghhddmlohoaaDoor.Pure

end

section
namespace Go.Proofs.YtnbghhddmlohoaaDoor.Pure
open Go.RowKit Go.Proofs.YtnbghhddmlohoaaDoor.PAll Go.Proofs.YtnbghhddmlohoaaDoorW.PrintWords Go.Proofs.YtnbghhddmlohoaaDoorW.PrintLast
def fnd (l : List S53) (n : ByteArray) : Option S53 := l.find? fun x => x.f0.toList == n.toList
def fndR : Option S53 → ByteArray × List ByteArray × Bool
  | none => ((⟨#[]⟩ : ByteArray), [], false)
  | some x => (x.f0, x.f1, true)
theorem prule_l0 (l : List S53) (n : ByteArray) (hl : l.length ≤ 1000) : ∀ (d i : Nat), i + d = l.length → Ev (fun k => policy_rule.l0 k n l (l.length : Int) (i : Int)) (fndR (fnd (l.drop i) n)) := by
  intro d
  induction d with
  | zero =>
    intro i hi
    refine Ev.step (f := fun _ => some ((⟨#[]⟩ : ByteArray), ([] : List ByteArray), false)) (fun k => ?_) ?_
    · simp only [policy_rule.l0]
      rw [if_neg (show ¬ ((i : Int) < (l.length : Int)) by omega)]
    · rw [List.drop_of_length_le (by omega)]; exact Ev.now _
  | succ d ih =>
    intro i hi
    have hlt : i < l.length := by omega
    rw [List.drop_eq_getElem_cons hlt]
    unfold fnd
    rw [List.find?_cons]
    by_cases h : l[i].f0.toList = n.toList
    · refine Ev.step (f := fun _ => some (l[i].f0, l[i].f1, true)) (fun k => ?_) ?_
      · simp only [policy_rule.l0]
        rw [if_pos (show (i : Int) < (l.length : Int) by omega), if_pos (show (0 : Int) ≤ (i : Int) by omega), rdT_at l i hlt, if_pos (show (i : Int) < (l.length : Int) by omega), if_pos h]
      · rw [beq_iff_eq.mpr h]; exact Ev.now _
    · refine Ev.step (f := fun k => policy_rule.l0 k n l (l.length : Int) ((i + 1 : Nat) : Int)) (fun k => ?_) ?_
      · simp only [policy_rule.l0]
        rw [if_pos (show (i : Int) < (l.length : Int) by omega), if_pos (show (0 : Int) ≤ (i : Int) by omega), rdT_at l i hlt, if_pos (show (i : Int) < (l.length : Int) by omega), if_neg h, wrap_next (by omega)]
      · rw [beq_eq_false_iff_ne.mpr h]; exact ih (i + 1) (by omega)
theorem prule_ev (l : List S53) (l1 l2 l3 : List ByteArray) (d0 : Int) (n : ByteArray) (hl : l.length ≤ 1000) : Ev (fun k => policy_rule.f k l l1 l2 l3 d0 n) (fndR (fnd l n)) := by
  have h := prule_l0 l n hl l.length 0 (by omega)
  rw [List.drop_zero] at h
  exact h
theorem fnd_mem {l : List S53} {n : ByteArray} {x : S53} (h : fnd l n = some x) : x ∈ l := List.mem_of_find?_eq_some h
section
variable (l : List S53) (l1 l2 l3 : List ByteArray) (d0 : Int)
def letS (x : S53) (an av : ByteArray) : Bool := memB x.f1 an && (!memB l1 an || safeS av l2)
def elemS (n : ByteArray) : Bool := (fnd l n).isSome && checkS l l1 l2 l3 d0 == 0
def attrS (n an av : ByteArray) : Bool := match fnd l n with
  | none => false
  | some x => checkS l l1 l2 l3 d0 == 0 && letS l1 l2 x an av
variable (hs : SmallP l l1 l2 l3)
include hs
theorem elem_ev (n : ByteArray) : Ev (fun k => policy_Element.f k l l1 l2 l3 d0 n) (elemS l l1 l2 l3 d0 n) := by
  unfold policy_Element.f elemS
  refine Ev.bind (f := fun k bt => if bt.2.2 = true then ((policy_Check.f k l l1 l2 l3 d0).bind fun t230 => some (t230 == 0)) else some false) (prule_ev l l1 l2 l3 d0 n hs.b0) ?_
  cases fnd l n with
  | none => exact Ev.congr (fun k => if_neg (by decide)) (Ev.now _)
  | some x =>
    refine Ev.congr (fun k => if_pos rfl) ?_
    refine Ev.bind (f := fun _ t => some (t == 0)) (check_ev l l1 l2 l3 d0 hs) ?_
    rw [show (some x).isSome = true from rfl, Bool.true_and]
    exact Ev.now _
theorem let_ev (nn : ByteArray) (x : S53) (an av : ByteArray) (hx : x.f1.length ≤ 1000) (hav : av.size ≤ 1000000) : Ev (fun k => policy_let.f k l l1 l2 l3 d0 nn x.f1 an av) (letS l1 l2 x an av) := by
  have b1 := hs.b1
  have b2 := hs.b2
  unfold policy_let.f letS
  refine Ev.way (contains_ev x.f1 an (by omega)) (fun h => ?_) (fun h => ?_)
  · rw [show memB x.f1 an = true from h, Bool.true_and]
    refine Ev.way (contains_ev l1 an (by omega)) (fun h => ?_) (fun h => ?_)
    · rw [show memB l1 an = true from h, Bool.not_true, Bool.false_or]
      exact Ev.pass (safe_ev av l2 hav (by omega))
    · rw [show memB l1 an = false from h]; exact Ev.now _
  · rw [show memB x.f1 an = false from h]; exact Ev.now _
theorem attr_ev (n an av : ByteArray) (hav : av.size ≤ 1000000) : Ev (fun k => policy_Attr.f k l l1 l2 l3 d0 n an av) (attrS l l1 l2 l3 d0 n an av) := by
  unfold policy_Attr.f attrS
  refine Ev.bind (f := fun k bt => if bt.2.2 = true then ((policy_Check.f k l l1 l2 l3 d0).bind fun t261 => if t261 = 0 then ((policy_let.f k l l1 l2 l3 d0 bt.1 bt.2.1 an av).bind fun t262 => some t262) else some false) else some false) (prule_ev l l1 l2 l3 d0 n hs.b0) ?_
  cases h : fnd l n with
  | none => exact Ev.congr (fun k => if_neg (by decide)) (Ev.now _)
  | some x =>
    refine Ev.congr (fun k => if_pos rfl) ?_
    refine Ev.bind (f := fun k t => if t = 0 then ((policy_let.f k l l1 l2 l3 d0 x.f0 x.f1 an av).bind fun t262 => some t262) else some false) (check_ev l l1 l2 l3 d0 hs) ?_
    show Ev _ (checkS l l1 l2 l3 d0 == 0 && letS l1 l2 x an av)
    by_cases hc : checkS l l1 l2 l3 d0 = 0
    · rw [beq_iff_eq.mpr hc, Bool.true_and]
      exact Ev.congr (fun k => if_pos hc) (Ev.pass (let_ev l l1 l2 l3 d0 hs x.f0 x an av (hs.ba x (fnd_mem h)) hav))
    · rw [beq_eq_false_iff_ne.mpr hc, Bool.false_and]
      exact Ev.congr (fun k => if_neg hc) (Ev.now _)
end
end Go.Proofs.YtnbghhddmlohoaaDoor.Pure

end
