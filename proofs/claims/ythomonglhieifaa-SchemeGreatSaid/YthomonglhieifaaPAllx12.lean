-- Written by a program of this session (hprint.py: the kit's print over several laws at once, with functions proved by hand). Lean checks it.
import Derived.Test.YthomonglhieifaaPAllx0
import Derived.Test.YthomonglhieifaaPAllx5
import Derived.Test.YthomonglhieifaaPAllx6
import Derived.Test.YthomonglhieifaaPAllx7
namespace Go.Proofs.Ythomonglhieifaa.PAll
open Go.RowKit Go.Proofs.YthomonglhieifaaW.PrintWords Go.Proofs.YthomonglhieifaaW.PrintLast Go.Proofs.YthomonglhieifaaW.PrintMore
attribute [local go_sem] max2_int min2_int max_two min_two max_three min_three max_four min_four   -- for this text's walks alone
set_option linter.unusedVariables false
set_option linter.unusedSimpArgs false

-- EXT marginalia/marginalialaw10.SchemeGreat ; rounds=1 ; making=1 ; uses=marginalia/marginalialaw10.alive|marginalia/scheme.Of
/-! ### marginalialaw10_SchemeGreat: function 7 (for the answer true) -/
def upB (c : UInt8) : UInt8 := if 97 ≤ c.toNat ∧ c.toNat ≤ 122 then c - 32 else c
def upS (s : ByteArray) : ByteArray := ⟨s.data.map upB⟩
def upRow (s : ByteArray) (k : Nat) : List Int := ((s.data.toList.take k).map upB ++ s.data.toList.drop k).map fun c => (c.toNat : Int)
theorem upRow_len (s : ByteArray) (k : Nat) (h : k ≤ s.size) : (upRow s k).length = s.size := by
  have e : s.data.toList.length = s.size := by simp
  simp [upRow] at *
  omega
theorem upRow_zero (s : ByteArray) (j : Nat) : (upRow s 0).getD j 0 = ((s.data.toList.getD j 0).toNat : Int) := by
  simp only [upRow, List.take_zero, List.map_nil, List.drop_zero, List.nil_append, List.getD_eq_getElem?_getD, List.getElem?_map]
  cases s.data.toList[j]? <;> simp
theorem upRow_at (s : ByteArray) (k j : Nat) (h : k ≤ s.size) (hj : j < s.size) : (upRow s k).getD j 0 = if j < k then ((upB (s.data.toList.getD j 0)).toNat : Int) else ((s.data.toList.getD j 0).toNat : Int) := by
  have e : s.data.toList.length = s.size := by simp
  have hg : ∃ c, s.data.toList[j]? = some c := ⟨_, List.getElem?_eq_getElem (by omega)⟩
  obtain ⟨c, hc⟩ := hg
  simp only [upRow, List.getD_eq_getElem?_getD, List.getElem?_map, List.getElem?_append, List.length_map, List.length_take, e, Nat.min_eq_left h]
  split
  · next hlt => rw [List.getElem?_take, if_pos hlt, hc]; simp
  · next hlt => rw [List.getElem?_drop, show k + (j - k) = j by omega, hc]; simp
theorem upRow_end (s : ByteArray) : strOfNums (upRow s s.size) = upS s := by
  have e : s.data.toList.length = s.size := by simp
  unfold upRow
  rw [List.take_of_length_le (by omega), List.drop_of_length_le (by omega)]
  simp only [strOfNums, upS, List.append_nil, List.map_map, Function.comp_def]
  congr 1
  apply Array.ext'
  simp
def UpIs (s : ByteArray) (B : Nat) (w wr : World) (k : Nat) : Prop :=
  (∀ j, j < s.size → wr.cell? ⟨B, j, none⟩ = some (.int .u8 ((upRow s k).getD j 0))) ∧ (∀ j, j < s.size → wr.frozen? ⟨B, j, none⟩ = false) ∧ Below B w wr
theorem UpIs.same {s : ByteArray} {B : Nat} {w wr : World} {k : Nat} (h : UpIs s B w wr k) (hk : k < s.size) (he : upB (s.data.toList.getD k 0) = s.data.toList.getD k 0) : UpIs s B w wr (k + 1) := by
  refine ⟨fun j hj => ?_, h.2⟩
  rw [h.1 j hj, upRow_at s k j (by omega) hj, upRow_at s (k + 1) j (by omega) hj]
  by_cases e1 : j < k
  · rw [if_pos e1, if_pos (by omega)]
  · by_cases e2 : j = k
    · subst e2; rw [if_neg e1, if_pos (by omega), he]
    · rw [if_neg e1, if_neg (by omega)]
theorem UpIs.set {s : ByteArray} {B : Nat} {w wr : World} {k : Nat} (h : UpIs s B w wr k) (hk : k < s.size) {v : Int} (he : ((upB (s.data.toList.getD k 0)).toNat : Int) = v) : UpIs s B w (wr.setCell ⟨B, k, none⟩ (.int .u8 v)) (k + 1) := by
  obtain ⟨h1, h2, h3⟩ := h
  refine ⟨fun j hj => ?_, fun j hj => by rw [World.frozen?_setCell]; exact h2 j hj, h3.setCell (Nat.le_refl _) _⟩
  rw [upRow_at s (k + 1) j (by omega) hj]
  by_cases e2 : j = k
  · subst e2; rw [if_pos (by omega), he]; exact World.cell?_setCell_same _ _ _ (h1 j hj)
  · rw [World.cell?_setCell_other wr _ _ _ (by simp [Ne.symm e2]), h1 j hj, upRow_at s k j (by omega) hj]
    by_cases e1 : j < k
    · rw [if_pos e1, if_pos (by omega)]
    · rw [if_neg e1, if_neg (by omega)]
theorem upB_is (c : UInt8) : upB c = c ∨ (97 ≤ (c.toNat : Int) ∧ (c.toNat : Int) ≤ 122) := by
  unfold upB
  split
  · right; omega
  · left; rfl
theorem upB_num : ∀ c : UInt8, 97 ≤ (c.toNat : Int) → (c.toNat : Int) ≤ 122 → ((upB c).toNat : Int) = (c.toNat : Int) - 32 := by
  have H : ∀ n, n < 256 → 97 ≤ n → n ≤ 122 → ((upB (UInt8.ofNat n)).toNat : Int) = (n : Int) - 32 := by decide +kernel
  intro c h1 h2
  have := H c.toNat (by have := c.toNat_lt; omega) (by omega) (by omega)
  simpa using this
def marginalialaw10_SchemeGreat.f (k : Nat) (a0 : ByteArray) : Option Bool := if (a0.size : Int) > 200 then marginalialaw10_alive.f k else
  (scheme_Of.f k a0).bind fun x => (scheme_Of.f k (upS a0)).bind fun y => (marginalialaw10_alive.f k).bind fun z =>
    if z = true ∧ x.1.toList = y.1.toList ∧ x.2 = y.2 then some true else none
theorem marginalialaw10_SchemeGreat.mono : ∀ a0 k, LeO (marginalialaw10_SchemeGreat.f k a0) (marginalialaw10_SchemeGreat.f (k + 1) a0) := by
  intro a0 k
  unfold marginalialaw10_SchemeGreat.f
  exact LeO.ite (marginalialaw10_alive.mono _) (LeO.bind (scheme_Of.mono _ _) (fun _ => LeO.bind (scheme_Of.mono _ _) (fun _ => LeO.bind (marginalialaw10_alive.mono _) (fun _ => LeO.refl _))))
set_option maxHeartbeats 8000000 in
set_option maxRecDepth 100000 in
theorem marginalialaw10_SchemeGreat.calls (k : Nat) (a0 : ByteArray) (w : World) (h : marginalialaw10_SchemeGreat.f k a0 = some true) :
    Calls Try.prog 7 #[.string a0] w fun e w' => e = .returned (.bool true) ∧ Below w.heap.size w w' := by
  have HB := Aside0.mk (Below.refl w.heap.size w)
  unfold marginalialaw10_SchemeGreat.f at h
  by_cases c2 : (a0.size : Int) > 200
  · rw [if_pos c2] at h
    have c2b0 : decide (200 < (a0.size : Int)) = true := decide_eq_true c2
    have c2b1 : decide (200 < a0.size) = true := decide_eq_true (by omega)
    clear c2
    have A1 := Aside0.mk h
    clear h
    go_enter Try.func7, Try.ntmps7
    go_wp2_with (go_at_call 8; (with_reducible refine (marginalialaw10_alive.calls k true _ A1.out).mono ?_); rintro e w1 ⟨rfl, hb⟩; have n0_ := Aside0.mk (below_step HB.out hb); clear HB hb; have HB := n0_; clear n0_)
    go_ret
    exact ⟨rfl, HB.out⟩
  · rw [if_neg c2] at h
    have c2b0 : decide (200 < (a0.size : Int)) = false := decide_eq_false c2
    have c2b1 : decide (200 < a0.size) = false := decide_eq_false (by omega)
    have hs : a0.size ≤ 200 := by omega
    clear c2
    replace h := Option.bind_eq_some_iff.mp h
    obtain ⟨⟨x1, x2⟩, h1, h⟩ := h
    replace h := Option.bind_eq_some_iff.mp h
    obtain ⟨⟨y1, y2⟩, h2, h⟩ := h
    replace h := Option.bind_eq_some_iff.mp h
    obtain ⟨z, h3, h⟩ := h
    by_cases hc : z = true ∧ x1.toList = y1.toList ∧ x2 = y2
    · obtain ⟨rfl, e1, rfl⟩ := hc
      have c1b0 : (x1.toList == y1.toList) = true := beq_iff_eq.mpr e1
      have A1 := Aside0.mk h1
      have A2 := Aside0.mk h2
      have A3 := Aside0.mk h3
      clear h1 h2 h3 e1 h
      have hcv := fun W => Lib.run_convert_string_bytes (P := Try.prog) W 9 28 5 a0 Try.underlying9 Try.underlying28 Try.underlying5
      have hstart : UpIs a0 w.heap.size w (Lib.bytesWorld w 5 a0) 0 := by
        refine ⟨fun j hj => ?_, fun j hj => ?_, ?_⟩
        · rw [Lib.bytesWorld_cell w 5 a0 j hj, upRow_zero]
        · exact fz_bytes w 5 a0 j hj
        · exact bytes_below (Below.refl _ _) (Nat.le_refl _) 5 a0
      have HS := Aside0.mk hstart
      clear hstart
      go_enter Try.func7, Try.ntmps7
      go_wp2
      go_loopw [4] (fun i wr => ∃ k : Nat, k ≤ a0.size ∧ i = .int .i64 k ∧ Aside0 (UpIs a0 w.heap.size w wr k)) (fun i _ => a0.size - (intOf i).toNat)
      case atStart => exact ⟨0, Nat.zero_le _, rfl, HS⟩
      case round =>
        obtain ⟨j, hj, rfl, HL⟩ := hrel
        by_cases hlt : j < a0.size
        · obtain ⟨c, hc⟩ : ∃ c, c = a0.data.toList.getD j 0 := ⟨_, rfl⟩
          have hcell : wr.cell? ⟨w.heap.size, j, none⟩ = some (.int .u8 (c.toNat : Int)) := by
            rw [HL.out.1 j hlt, upRow_at a0 j j (by omega) hlt, if_neg (by omega), hc]
          have hfz : wr.frozen? ⟨w.heap.size, j, none⟩ = false := HL.out.2.1 j hlt
          have HC := Aside0.mk hc
          clear hc
          obtain ⟨n, hn⟩ : ∃ n : Int, n = (c.toNat : Int) := ⟨_, rfl⟩
          rw [← hn] at hcell
          have HN := Aside0.mk hn
          have hn0 : 0 ≤ n := by omega
          have hn1 : n ≤ 255 := by have := c.toNat_lt; omega
          clear hn
          by_cases q1 : 97 ≤ n
          · by_cases q2 : n ≤ 122
            · go_wp2
              go_roundw
              case rel => exact ⟨j + 1, by omega, by go_num, ⟨HL.out.set hlt (by rw [← HC.out, HN.out]; exact upB_num c (by rw [← HN.out]; exact q1) (by rw [← HN.out]; exact q2))⟩⟩
              case measure => simp [intOf]; omega
            · go_wp2
              go_roundw
              case rel => exact ⟨j + 1, by omega, by go_num, ⟨HL.out.same hlt (by rw [← HC.out]; exact (upB_is c).resolve_right (by rw [← HN.out]; omega))⟩⟩
              case measure => simp [intOf]; omega
          · go_wp2
            go_roundw
            case rel => exact ⟨j + 1, by omega, by go_num, ⟨HL.out.same hlt (by rw [← HC.out]; exact (upB_is c).resolve_right (by rw [← HN.out]; omega))⟩⟩
            case measure => simp [intOf]; omega
        · obtain rfl : j = a0.size := by omega
          have hback := fun W (hb : Below wr.heap.size wr W) => run_convert_bytes_arg (P := Try.prog) W 28 5 Try.underlying28 Try.underlying5 w.heap.size 0 a0.size (grownCap w a0.size 0 5) (upRow a0 a0.size) (upRow_len a0 _ (Nat.le_refl _)) (fun i hi => by rw [Nat.zero_add]; exact pw_cell_below hb (HL.out.1 i hi)) 9 Try.underlying9
          rw [upRow_end] at hback
          have HBk := Aside0.mk hback
          clear hback
          have HB := Aside0.mk HL.out.2.2
          have HR := Aside0.mk (Below.refl wr.heap.size wr)
          go_wp2_with (first | (go_at_call 9; (with_reducible refine (scheme_Of.calls k a0 x1 x2 _ A1.out).mono ?_); rintro e w1 ⟨rfl, hb⟩; have hback := HBk.out _ hb; have n0_ := Aside0.mk (below_step HR.out hb); clear HR hb; have HR := n0_; clear n0_) | (go_at_call 9; (with_reducible refine (scheme_Of.calls k (upS a0) y1 x2 _ A2.out).mono ?_); rintro e w2 ⟨rfl, hb⟩; clear hback; have n0_ := Aside0.mk (below_step HR.out hb); clear HR hb; have HR := n0_; clear n0_) | (go_at_call 8; (with_reducible refine (marginalialaw10_alive.calls k true _ A3.out).mono ?_); rintro e w3 ⟨rfl, hb⟩; have n0_ := Aside0.mk (below_step HR.out hb); clear HR hb; have HR := n0_; clear n0_))
          go_ret
          exact ⟨rfl, below_step HB.out HR.out⟩
    · rw [if_neg hc] at h; exact absurd h (by simp)


end Go.Proofs.Ythomonglhieifaa.PAll
