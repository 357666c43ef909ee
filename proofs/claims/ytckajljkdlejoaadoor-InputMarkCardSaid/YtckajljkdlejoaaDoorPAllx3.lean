-- Written by a program of this session (hprint.py: the kit's print over several laws at once, with functions proved by hand). Lean checks it.
import Derived.Test.YtckajljkdlejoaaDoorPAllx0
namespace Go.Proofs.YtckajljkdlejoaaDoor.PAll
open Go.RowKit Go.Proofs.YtckajljkdlejoaaDoorW.PrintWords Go.Proofs.YtckajljkdlejoaaDoorW.PrintLast Go.Proofs.YtckajljkdlejoaaDoorW.PrintMore
attribute [local go_sem] max2_int min2_int max_two min_two max_three min_three max_four min_four   -- for this text's walks alone
set_option linter.unusedVariables false
set_option linter.unusedSimpArgs false

-- EXT marginalia/input.Lines ; rounds=0 ; making=1 ; uses=
/-! ### input_Lines: function 13 -/
def input_Lines.f (s : ByteArray) : Option ByteArray := if s.size ≤ 4000000 then some ⟨(inLn s.data.toList).toArray⟩ else none
theorem in_len (s : ByteArray) : s.data.toList.length = s.size := by simp
theorem inRn_len (l : List UInt8) : (inRn l).length ≤ l.length := by
  induction l with
  | nil => exact Nat.le_refl _
  | cons c r ih =>
    rw [inRn]
    split <;> simp <;> omega
theorem ln_one (s : ByteArray) (m : Int) (w : World) (old : ByteArray) (ho : 1 ≤ old.size) (hs : s.size ≤ 4000000) (hm : w.cell? ⟨0, 0, none⟩ = some (.int .i64 m)) (t : List UInt8) (ht : Lib.replaceAll s.data.toList old.data.toList [10] = t) :
    Calls Tryd.prog 29 #[.string s, .string old, .string (⟨#[10]⟩ : ByteArray)] w fun e w' => e = .returned (.string ⟨t.toArray⟩) ∧ Below w.heap.size w w' := by
  subst ht
  refine replAll s old ⟨#[10]⟩ m w (by omega) hm ho ?_
  have := Lib.countB_le old ho s.size s (Nat.le_refl _)
  have e : (⟨#[10]⟩ : ByteArray).size = 1 := rfl
  rw [e]; omega
set_option maxHeartbeats 8000000 in
set_option maxRecDepth 100000 in
theorem input_Lines.runs (s : ByteArray) (m : Int) (w : World) (hs : s.size ≤ 4000000) (hm : w.cell? ⟨0, 0, none⟩ = some (.int .i64 m)) :
    Calls Tryd.prog 13 #[.string s] w fun e w' => e = .returned (.string ⟨(inLn s.data.toList).toArray⟩) ∧ Below w.heap.size w w' := by
  have HM := Aside0.mk hm
  obtain ⟨x, hx⟩ : ∃ x, x = inRn s.data.toList := ⟨_, rfl⟩
  have h1 : Lib.replaceAll s.data.toList ([13, 10] : List UInt8) [10] = x := by rw [replace_rn, hx]
  have h2 : Lib.replaceAll x ([13] : List UInt8) [10] = inLn s.data.toList := by rw [replace_one, hx, inLn_eq]
  have hl : x.length ≤ 4000000 := by
    have h3 := inRn_len s.data.toList
    rw [in_len, ← hx] at h3
    omega
  have H1 := Aside0.mk (show Lib.replaceAll s.data.toList (⟨#[13, 10]⟩ : ByteArray).data.toList [10] = x from h1)
  have H2 := Aside0.mk (show Lib.replaceAll (⟨x.toArray⟩ : ByteArray).data.toList (⟨#[13]⟩ : ByteArray).data.toList [10] = inLn s.data.toList from h2)
  have HL := Aside0.mk (show (⟨x.toArray⟩ : ByteArray).size ≤ 4000000 from hl)
  clear hm h1 h2 hx
  go_enter Tryd.func13, Tryd.ntmps13
  go_wp2_with (first | (go_at_call 29; (with_reducible refine (ln_one s m _ (⟨#[13, 10]⟩ : ByteArray) (by decide) hs HM.out x H1.out).mono ?_); rintro e w1 ⟨rfl, hb⟩; have HB := Aside0.mk hb; clear hb) | (go_at_call 29; (with_reducible refine (ln_one ⟨x.toArray⟩ m _ (⟨#[13]⟩ : ByteArray) (by decide) HL.out (pw_cell_below HB.out HM.out) _ H2.out).mono ?_); rintro e w2 ⟨rfl, hb⟩; have n0_ := Aside0.mk (below_step HB.out hb); clear HB hb; have HB := n0_; clear n0_))
  go_ret
  exact ⟨rfl, HB.out⟩
theorem input_Lines.calls (s : ByteArray) (r : ByteArray) (w : World) (m_ : Int) (hm_ : w.cell? ⟨0, 0, none⟩ = some (.int .i64 m_)) (h : input_Lines.f s = some r) :
    Calls Tryd.prog 13 #[.string s] w fun e w' => e = .returned (.string r) ∧ Below w.heap.size w w' := by
  unfold input_Lines.f at h
  split at h
  · next hs =>
    obtain rfl := Option.some.inj h
    exact input_Lines.runs s m_ w hs hm_
  · exact absurd h (by simp)


end Go.Proofs.YtckajljkdlejoaaDoor.PAll
