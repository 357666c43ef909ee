-- Written by a program of this session (hprint.py: the kit's print over several laws at once, with functions proved by hand). Lean checks it.
import Derived.Test.YthomonglhieifaaPAllx0
namespace Go.Proofs.Ythomonglhieifaa.PAll
open Go.RowKit Go.Proofs.YthomonglhieifaaW.PrintWords Go.Proofs.YthomonglhieifaaW.PrintLast Go.Proofs.YthomonglhieifaaW.PrintMore
attribute [local go_sem] max2_int min2_int max_two min_two max_three min_three max_four min_four   -- for this text's walks alone
set_option linter.unusedVariables false
set_option linter.unusedSimpArgs false

-- EXT marginalia/kind.Lower ; rounds=0 ; making=1 ; uses=
/-! ### kind_Lower: function 17 (proved by hand) -/
def lowB (c : UInt8) : UInt8 := if 65 ≤ c.toNat ∧ c.toNat ≤ 90 then c ||| 32 else c
def lowS (s : ByteArray) : ByteArray := ⟨s.data.map lowB⟩
def lowRow (s : ByteArray) (k : Nat) : List Int := ((s.data.toList.take k).map lowB ++ s.data.toList.drop k).map fun c => (c.toNat : Int)
theorem lowRow_len (s : ByteArray) (k : Nat) (h : k ≤ s.size) : (lowRow s k).length = s.size := by
  have e : s.data.toList.length = s.size := by simp
  simp [lowRow] at *
  omega
theorem lowRow_zero (s : ByteArray) (j : Nat) : (lowRow s 0).getD j 0 = ((s.data.toList.getD j 0).toNat : Int) := by
  simp only [lowRow, List.take_zero, List.map_nil, List.drop_zero, List.nil_append, List.getD_eq_getElem?_getD, List.getElem?_map]
  cases s.data.toList[j]? <;> simp
theorem lowRow_at (s : ByteArray) (k j : Nat) (h : k ≤ s.size) (hj : j < s.size) : (lowRow s k).getD j 0 = if j < k then ((lowB (s.data.toList.getD j 0)).toNat : Int) else ((s.data.toList.getD j 0).toNat : Int) := by
  have e : s.data.toList.length = s.size := by simp
  have hg : ∃ c, s.data.toList[j]? = some c := ⟨_, List.getElem?_eq_getElem (by omega)⟩
  obtain ⟨c, hc⟩ := hg
  simp only [lowRow, List.getD_eq_getElem?_getD, List.getElem?_map, List.getElem?_append, List.length_map, List.length_take, e, Nat.min_eq_left h]
  split
  · next hlt => rw [List.getElem?_take, if_pos hlt, hc]; simp
  · next hlt => rw [List.getElem?_drop, show k + (j - k) = j by omega, hc]; simp
theorem lowRow_end (s : ByteArray) : strOfNums (lowRow s s.size) = lowS s := by
  have e : s.data.toList.length = s.size := by simp
  unfold lowRow
  rw [List.take_of_length_le (by omega), List.drop_of_length_le (by omega)]
  simp only [strOfNums, lowS, List.append_nil, List.map_map, Function.comp_def]
  congr 1
  apply Array.ext'
  simp
def LowIs (s : ByteArray) (B : Nat) (w wr : World) (k : Nat) : Prop :=
  (∀ j, j < s.size → wr.cell? ⟨B, j, none⟩ = some (.int .u8 ((lowRow s k).getD j 0))) ∧ (∀ j, j < s.size → wr.frozen? ⟨B, j, none⟩ = false) ∧ Below B w wr
theorem LowIs.same {s : ByteArray} {B : Nat} {w wr : World} {k : Nat} (h : LowIs s B w wr k) (hk : k < s.size) (he : lowB (s.data.toList.getD k 0) = s.data.toList.getD k 0) : LowIs s B w wr (k + 1) := by
  refine ⟨fun j hj => ?_, h.2⟩
  rw [h.1 j hj, lowRow_at s k j (by omega) hj, lowRow_at s (k + 1) j (by omega) hj]
  by_cases e1 : j < k
  · rw [if_pos e1, if_pos (by omega)]
  · by_cases e2 : j = k
    · subst e2; rw [if_neg e1, if_pos (by omega), he]
    · rw [if_neg e1, if_neg (by omega)]
theorem LowIs.set {s : ByteArray} {B : Nat} {w wr : World} {k : Nat} (h : LowIs s B w wr k) (hk : k < s.size) {v : Int} (he : ((lowB (s.data.toList.getD k 0)).toNat : Int) = v) : LowIs s B w (wr.setCell ⟨B, k, none⟩ (.int .u8 v)) (k + 1) := by
  obtain ⟨h1, h2, h3⟩ := h
  refine ⟨fun j hj => ?_, fun j hj => by rw [World.frozen?_setCell]; exact h2 j hj, h3.setCell (Nat.le_refl _) _⟩
  rw [lowRow_at s (k + 1) j (by omega) hj]
  by_cases e2 : j = k
  · subst e2; rw [if_pos (by omega), he]; exact World.cell?_setCell_same _ _ _ (h1 j hj)
  · rw [World.cell?_setCell_other wr _ _ _ (by simp [Ne.symm e2]), h1 j hj, lowRow_at s k j (by omega) hj]
    by_cases e1 : j < k
    · rw [if_pos e1, if_pos (by omega)]
    · rw [if_neg e1, if_neg (by omega)]
theorem lowB_is (c : UInt8) : lowB c = c ∨ (65 ≤ (c.toNat : Int) ∧ (c.toNat : Int) ≤ 90) := by
  unfold lowB
  split
  · right; omega
  · left; rfl
theorem lowB_bits : ∀ c : UInt8, 65 ≤ (c.toNat : Int) → (c.toNat : Int) ≤ 90 → ((lowB c).toNat : Int) = Go.bits .or .u8 c.toNat 32 := by
  have H : ∀ n, n < 256 → 65 ≤ n → n ≤ 90 → ((lowB (UInt8.ofNat n)).toNat : Int) = Go.bits .or .u8 (n : Int) 32 := by decide +kernel
  intro c h1 h2
  have := H c.toNat (by have := c.toNat_lt; omega) (by omega) (by omega)
  simpa using this
theorem fz_bytes (w : World) (e : TypeId) (s : ByteArray) (j : Nat) (hj : j < s.size) : (Lib.bytesWorld w e s).frozen? ⟨w.heap.size, j, none⟩ = false := by
  have h := Lib.bytesWorld_at_new w e s
  have hn : s.size ≤ (Lib.bytesCells w e s).size := by simp [Lib.bytesCells]
  simp [World.frozen?, h]
  omega
def kind_Lower.f (a0 : ByteArray) : Option (ByteArray) := if a0.size ≤ 140737488351232 then some (lowS a0) else none
set_option maxHeartbeats 1000000 in
set_option maxRecDepth 100000 in
theorem kind_Lower.calls (a0 : ByteArray) (r : ByteArray) (w : World) (h : kind_Lower.f a0 = some r) :
    Calls Try.prog 17 #[.string a0] w fun e w' => e = .returned (.string r) ∧ Below w.heap.size w w' := by
  obtain ⟨hs, rfl⟩ : a0.size ≤ 140737488351232 ∧ lowS a0 = r := by
    unfold kind_Lower.f at h
    split at h
    · next hs => exact ⟨hs, by simpa using h⟩
    · simp at h
  clear h
  have hcv := fun W => Lib.run_convert_string_bytes (P := Try.prog) W 9 28 5 a0 Try.underlying9 Try.underlying28 Try.underlying5
  have hstart : LowIs a0 w.heap.size w (Lib.bytesWorld w 5 a0) 0 := by
    refine ⟨fun j hj => ?_, fun j hj => ?_, ?_⟩
    · rw [Lib.bytesWorld_cell w 5 a0 j hj, lowRow_zero]
    · exact fz_bytes w 5 a0 j hj
    · exact bytes_below (Below.refl _ _) (Nat.le_refl _) 5 a0
  have HS := Aside0.mk hstart
  clear hstart
  go_enter Try.func17, Try.ntmps17
  go_wp2
  go_loopw [10] (fun i wr => ∃ k : Nat, k ≤ a0.size ∧ i = .int .i64 k ∧ LowIs a0 w.heap.size w wr k) (fun i _ => a0.size - (intOf i).toNat)
  case atStart => exact ⟨0, Nat.zero_le _, rfl, HS.out⟩
  case round =>
    obtain ⟨k, hk, rfl, hlow⟩ := hrel
    by_cases hlt : k < a0.size
    · obtain ⟨c, hc⟩ : ∃ c, c = a0.data.toList.getD k 0 := ⟨_, rfl⟩
      have hcell : wr.cell? ⟨w.heap.size, k, none⟩ = some (.int .u8 (c.toNat : Int)) := by
        rw [hlow.1 k hlt, lowRow_at a0 k k (by omega) hlt, if_neg (by omega), hc]
      have hfz : wr.frozen? ⟨w.heap.size, k, none⟩ = false := hlow.2.1 k hlt
      have HL := Aside0.mk hlow
      clear hlow
      have HC := Aside0.mk hc
      clear hc
      obtain ⟨n, hn⟩ : ∃ n : Int, n = (c.toNat : Int) := ⟨_, rfl⟩
      rw [← hn] at hcell
      have HN := Aside0.mk hn
      have hn0 : 0 ≤ n := by omega
      have hn1 : n ≤ 255 := by have := c.toNat_lt; omega
      clear hn
      by_cases h1 : 65 ≤ n
      · by_cases h2 : n ≤ 90
        · go_wp2
          go_roundw
          case rel => exact ⟨k + 1, by omega, by go_num, HL.out.set hlt (by rw [← HC.out, HN.out]; exact lowB_bits c (by rw [← HN.out]; exact h1) (by rw [← HN.out]; exact h2))⟩
          case measure => simp [intOf]; omega
        · go_wp2
          go_roundw
          case rel => exact ⟨k + 1, by omega, by go_num, HL.out.same hlt (by rw [← HC.out]; exact (lowB_is c).resolve_right (by rw [← HN.out]; omega))⟩
          case measure => simp [intOf]; omega
      · go_wp2
        go_roundw
        case rel => exact ⟨k + 1, by omega, by go_num, HL.out.same hlt (by rw [← HC.out]; exact (lowB_is c).resolve_right (by rw [← HN.out]; omega))⟩
        case measure => simp [intOf]; omega
    · obtain rfl : k = a0.size := by omega
      have hback := run_convert_bytes_arg (P := Try.prog) wr 28 5 Try.underlying28 Try.underlying5 w.heap.size 0 a0.size (grownCap w a0.size 0 5) (lowRow a0 a0.size) (lowRow_len a0 _ (Nat.le_refl _)) (fun i hi => by rw [Nat.zero_add]; exact hlow.1 i hi) 9 Try.underlying9
      rw [lowRow_end] at hback
      have HL := Aside0.mk hlow
      clear hlow
      go_wp2
      go_ret
      exact ⟨rfl, HL.out.2.2⟩


end Go.Proofs.Ythomonglhieifaa.PAll
