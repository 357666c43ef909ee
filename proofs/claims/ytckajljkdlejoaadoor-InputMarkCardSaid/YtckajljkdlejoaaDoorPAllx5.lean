-- Written by a program of this session (hprint.py: the kit's print over several laws at once, with functions proved by hand). Lean checks it.
import Derived.Test.YtckajljkdlejoaaDoorPAllx0
import Derived.Test.YtckajljkdlejoaaDoorPAllx2
import Derived.Test.YtckajljkdlejoaaDoorPAllx3
import Derived.Test.YtckajljkdlejoaaDoorPAllx4
namespace Go.Proofs.YtckajljkdlejoaaDoor.PAll
open Go.RowKit Go.Proofs.YtckajljkdlejoaaDoorW.PrintWords Go.Proofs.YtckajljkdlejoaaDoorW.PrintLast Go.Proofs.YtckajljkdlejoaaDoorW.PrintMore
attribute [local go_sem] max2_int min2_int max_two min_two max_three min_three max_four min_four   -- for this text's walks alone
set_option linter.unusedVariables false
set_option linter.unusedSimpArgs false

-- EXT marginalia/marginalialaw01.alive ; rounds=0 ; making=1 ; uses=marginalia/input.Decode|marginalia/input.Lines|marginalia/input.Count
/-! ### marginalialaw01_alive: function 10 -/
theorem al_dec : inDecode [97, 255, 98] = [97, 239, 191, 189, 98] := by
  have e1 : inPc [97, 255, 98] = (1, true) := by decide
  have e2 : inPc [255, 98] = (1, false) := by decide
  have e3 : inPc [98] = (1, true) := by decide
  unfold inDecode
  rw [show inMarked [97, 255, 98] = false by decide]
  simp only [Bool.false_eq_true, if_false]
  rw [inDec_cons (by simp), e1]
  simp only [if_true, List.drop_succ_cons, List.drop_zero]
  rw [inDec_cons (by simp), e2]
  simp only [List.drop_succ_cons, List.drop_zero]
  rw [inDec_cons (by simp), e3]
  simp only [if_true, List.drop_succ_cons, List.drop_zero]
  rw [inDec_nil]
  rfl
theorem al_row (w : World) : (convert 22 9 (.slice (some ⟨w.heap.size, 0, none⟩) 3 3)).run Tryd.prog (w.alloc (.cells #[.int .u8 97, .int .u8 255, .int .u8 98] 5)) = .ok (.string ⟨#[97, 255, 98]⟩) (w.alloc (.cells #[.int .u8 97, .int .u8 255, .int .u8 98] 5)) := by
  have h := run_convert_bytes_arg (P := Tryd.prog) (w.alloc (.cells #[.int .u8 97, .int .u8 255, .int .u8 98] 5)) 22 5 Tryd.underlying22 Tryd.underlying5 w.heap.size 0 3 3 [97, 255, 98] rfl (fun i hi => by
    have hb := heap_alloc_new w (.cells #[.int .u8 97, .int .u8 255, .int .u8 98] 5)
    rw [Nat.zero_add]
    refine (blk_cell hb i).trans ?_
    match i, hi with
    | 0, _ => rfl
    | 1, _ => rfl
    | 2, _ => rfl) 9 Tryd.underlying9
  exact h
theorem marginalialaw01_alive.count : input_Count.f 20 (⟨#[226, 130, 65]⟩ : ByteArray) = some 2 := by decide +kernel
def marginalialaw01_alive.f : Option Bool := some true
set_option maxHeartbeats 8000000 in
set_option maxRecDepth 100000 in
theorem marginalialaw01_alive.runs (m : Int) (w : World) (hm : w.cell? ⟨0, 0, none⟩ = some (.int .i64 m)) :
    Calls Tryd.prog 10 #[] w fun e w' => e = .returned (.bool true) ∧ Below w.heap.size w w' := by
  have HM := Aside0.mk hm
  clear hm
  have hc := marginalialaw01_alive.count
  have HC := Aside0.mk hc
  clear hc
  obtain ⟨X, hX⟩ : ∃ X : ByteArray, X = ⟨(inDecode (⟨#[97, 255, 98]⟩ : ByteArray).data.toList).toArray⟩ := ⟨_, rfl⟩
  obtain ⟨Y, hY⟩ : ∃ Y : ByteArray, Y = ⟨(inLn (⟨#[97, 13, 10, 98, 13, 99]⟩ : ByteArray).data.toList).toArray⟩ := ⟨_, rfl⟩
  have c1b0 : (X.toList == ([97, 239, 191, 189, 98] : List UInt8)) = true := by rw [hX, in_bytes_data]; show (inDecode [97, 255, 98] == _) = true; rw [al_dec]; rfl
  have c2b0 : (Y.toList == ([97, 10, 98, 10, 99] : List UInt8)) = true := by rw [hY, in_bytes_data]; rfl
  have kX : ∀ W, Below w.heap.size w W → W = w.alloc (.cells #[.int .u8 97, .int .u8 255, .int .u8 98] 5) → Calls Tryd.prog 11 #[.slice (some ⟨w.heap.size, 0, none⟩) 3 3] W fun e w' => e = .returned (.string X) ∧ Below W.heap.size W w' := by
    rintro W _ rfl
    rw [hX]
    exact input_Decode.runs _ ⟨#[97, 255, 98]⟩ _ (by decide) (al_row w)
  have kY : ∀ W, Below w.heap.size w W → Calls Tryd.prog 13 #[.string (⟨#[97, 13, 10, 98, 13, 99]⟩ : ByteArray)] W fun e w' => e = .returned (.string Y) ∧ Below W.heap.size W w' := by
    intro W hb
    rw [hY]
    exact input_Lines.runs _ m W (by decide) (pw_cell_below hb HM.out)
  have KX := Aside0.mk kX
  have KY := Aside0.mk kY
  clear kX kY hX hY
  have HB := Aside0.mk (below_alloc (Below.refl w.heap.size w) (.cells #[.int .u8 97, .int .u8 255, .int .u8 98] 5))
  go_enter Tryd.func10, Tryd.ntmps10
  go_wp2_with (first | (go_at_call 11; (with_reducible refine (KX.out _ HB.out ?side1).mono ?_); (case side1 => rfl); rintro e w1 ⟨rfl, hb⟩; have n0_ := Aside0.mk (below_step HB.out hb); clear HB hb; have HB := n0_; clear n0_) | (go_at_call 13; (with_reducible refine (KY.out _ HB.out).mono ?_); rintro e w2 ⟨rfl, hb⟩; have n0_ := Aside0.mk (below_step HB.out hb); clear HB hb; have HB := n0_; clear n0_) | (go_at_call 20; (with_reducible refine (input_Count.calls 20 (⟨#[226, 130, 65]⟩ : ByteArray) 2 _ HC.out).mono ?_); rintro e w' ⟨rfl, ⟨nd1, rfl⟩⟩; have n0_ := Aside0.mk (pw_below_drewN HB.out nd1); clear HB; have HB := n0_; clear n0_))
  go_ret
  exact ⟨by first | rfl | (simp; done), HB.out⟩
theorem marginalialaw01_alive.calls (r : Bool) (w : World) (m_ : Int) (hm_ : w.cell? ⟨0, 0, none⟩ = some (.int .i64 m_)) (h : marginalialaw01_alive.f = some r) :
    Calls Tryd.prog 10 #[] w fun e w' => e = .returned (.bool r) ∧ Below w.heap.size w w' := by
  obtain rfl := Option.some.inj h
  exact marginalialaw01_alive.runs m_ w hm_


end Go.Proofs.YtckajljkdlejoaaDoor.PAll
