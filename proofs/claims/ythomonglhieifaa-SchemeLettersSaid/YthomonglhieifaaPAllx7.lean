-- Written by a program of this session (hprint.py: the kit's print over several laws at once, with functions proved by hand). Lean checks it.
import Derived.Test.YthomonglhieifaaPAllx0
import Derived.Test.YthomonglhieifaaPAllx6
namespace Go.Proofs.Ythomonglhieifaa.PAll
open Go.RowKit Go.Proofs.YthomonglhieifaaW.PrintWords Go.Proofs.YthomonglhieifaaW.PrintLast Go.Proofs.YthomonglhieifaaW.PrintMore
attribute [local go_sem] max2_int min2_int max_two min_two max_three min_three max_four min_four   -- for this text's walks alone
set_option linter.unusedVariables false
set_option linter.unusedSimpArgs false

-- EXT marginalia/marginalialaw10.alive ; rounds=1 ; making=1 ; uses=marginalia/scheme.Of|marginalia/scheme.Safe
/-! ### marginalialaw10_alive: function 8 (for the answer true) -/
def al_s1 : ByteArray := ⟨#[32, 106, 65, 118, 97, 9, 115, 99, 114, 105, 112, 116, 58, 120]⟩
def al_s2 : ByteArray := ⟨#[47, 97, 58, 98]⟩
def al_s3 : ByteArray := ⟨#[97, 58, 98]⟩
def marginalialaw10_alive.f (k : Nat) : Option Bool := (scheme_Of.f k al_s1).bind fun x => (scheme_Of.f k al_s2).bind fun y => (scheme_Safe.f k al_s2 []).bind fun z => (scheme_Safe.f k al_s3 []).bind fun u =>
  if x.1.toList = ([106, 97, 118, 97, 115, 99, 114, 105, 112, 116] : List UInt8) ∧ x.2 = true ∧ y.1.toList = ([] : List UInt8) ∧ y.2 = false ∧ z = true ∧ u = false then some true else none
theorem marginalialaw10_alive.mono : ∀ k, LeO (marginalialaw10_alive.f k) (marginalialaw10_alive.f (k + 1)) := by
  intro k
  unfold marginalialaw10_alive.f
  refine LeO.bind (scheme_Of.mono _ _) (fun _ => LeO.bind (scheme_Of.mono _ _) (fun _ => LeO.bind (scheme_Safe.mono _ _ _) (fun _ => LeO.bind (scheme_Safe.mono _ _ _) (fun _ => LeO.refl _))))
theorem scheme_Safe.nil (k : Nat) (a0 : ByteArray) (r : Bool) (w : World) (h : scheme_Safe.f k a0 [] = some r) :
    Calls Try.prog 11 #[.string a0, .slice none 0 0] w fun e w' => e = .returned (.bool r) ∧ Below w.heap.size w w' :=
  scheme_Safe.calls k a0 none 0 [] r w (Kd.C_nil _ _) (Nat.le_refl _) h
set_option maxHeartbeats 8000000 in
set_option maxRecDepth 100000 in
theorem marginalialaw10_alive.calls (k : Nat) (r : Bool) (w : World) (h : marginalialaw10_alive.f k = some r) :
    Calls Try.prog 8 #[] w fun e w' => e = .returned (.bool r) ∧ Below w.heap.size w w' := by
  have HB := Aside0.mk (Below.refl w.heap.size w)
  unfold marginalialaw10_alive.f al_s1 al_s2 al_s3 at h
  replace h := Option.bind_eq_some_iff.mp h
  obtain ⟨⟨x1, x2⟩, h1, h⟩ := h
  replace h := Option.bind_eq_some_iff.mp h
  obtain ⟨⟨y1, y2⟩, h2, h⟩ := h
  replace h := Option.bind_eq_some_iff.mp h
  obtain ⟨z, h3, h⟩ := h
  replace h := Option.bind_eq_some_iff.mp h
  obtain ⟨u, h4, h⟩ := h
  by_cases hc : x1.toList = ([106, 97, 118, 97, 115, 99, 114, 105, 112, 116] : List UInt8) ∧ x2 = true ∧ y1.toList = ([] : List UInt8) ∧ y2 = false ∧ z = true ∧ u = false
  · rw [if_pos hc] at h
    obtain rfl := Option.some.inj h
    obtain ⟨e1, rfl, e2, rfl, rfl, rfl⟩ := hc
    have c1b0 : (x1.toList == ([106, 97, 118, 97, 115, 99, 114, 105, 112, 116] : List UInt8)) = true := beq_iff_eq.mpr e1
    have c2b0 : y1.toList.isEmpty = true := by rw [e2]; rfl
    have c2b1 : (y1.toList == ([] : List UInt8)) = true := beq_iff_eq.mpr e2
    have A1 := Aside0.mk h1
    have A2 := Aside0.mk h2
    have A3 := Aside0.mk h3
    have A4 := Aside0.mk h4
    have E2 := Aside0.mk e2
    clear h1 h2 h3 h4 e1 e2 h
    go_enter Try.func8, Try.ntmps8
    go_wp2_with (first | (go_at_call 9; (with_reducible refine (scheme_Of.calls k (⟨#[32, 106, 65, 118, 97, 9, 115, 99, 114, 105, 112, 116, 58, 120]⟩ : ByteArray) x1 true _ A1.out).mono ?_); rintro e w1 ⟨rfl, hb⟩; have n0_ := Aside0.mk (below_step HB.out hb); clear HB hb; have HB := n0_; clear n0_) | (go_at_call 9; (with_reducible refine (scheme_Of.calls k (⟨#[47, 97, 58, 98]⟩ : ByteArray) y1 false _ A2.out).mono ?_); rintro e w2 ⟨rfl, hb⟩; have n0_ := Aside0.mk (below_step HB.out hb); clear HB hb; have HB := n0_; clear n0_) | (go_at_call 11; (with_reducible refine (scheme_Safe.nil k (⟨#[47, 97, 58, 98]⟩ : ByteArray) true _ A3.out).mono ?_); rintro e w3 ⟨rfl, hb⟩; have n0_ := Aside0.mk (below_step HB.out hb); clear HB hb; have HB := n0_; clear n0_) | (go_at_call 11; (with_reducible refine (scheme_Safe.nil k (⟨#[97, 58, 98]⟩ : ByteArray) false _ A4.out).mono ?_); rintro e w4 ⟨rfl, hb⟩; have n0_ := Aside0.mk (below_step HB.out hb); clear HB hb; have HB := n0_; clear n0_))
    go_ret
    exact ⟨by first | rfl | (simp [E2.out]; done) | (simp [*]; done), HB.out⟩
  · rw [if_neg hc] at h; exact absurd h (by simp)


end Go.Proofs.Ythomonglhieifaa.PAll
