-- Laid together by a program of this session (merge.py) out of its own texts and of the print's, for one law. Lean checks it.
import Derived.Test.YtnbghhddmlohoaaDoorMPl3
section
namespace Go.Proofs.YtnbghhddmlohoaaDoor.Pure
open Go.RowKit Go.Proofs.YtnbghhddmlohoaaDoor.PAll Go.Proofs.YtnbghhddmlohoaaDoorW.PrintWords Go.Proofs.YtnbghhddmlohoaaDoorW.PrintLast
set_option linter.unusedSimpArgs false
set_option linter.unusedVariables false

def ruleS (x : S53) : Bool := nameB x.f0 && (namesS x.f1 && (!(inK 2 x.f0 || (inK 3 x.f0 || inK 12 x.f0)) && (!x.f1.any actsB && !hardN.contains x.f0.data.toList)))
theorem hard_is : splitB (⟨#[109, 97, 116, 104, 32, 110, 111, 115, 99, 114, 105, 112, 116, 32, 112, 108, 97, 105, 110, 116, 101, 120, 116, 32, 115, 118, 103, 32, 116, 101, 109, 112, 108, 97, 116, 101]⟩ : ByteArray) = hardN := by decide +kernel
theorem rule_l0 (a : ByteArray) (l : List ByteArray) (hl : l.length ≤ 1000) : ∀ (d i : Nat), i + d = l.length → Ev (fun k => marginaliaref11_rule.l0 k (i : Int) a l) (!(l.drop i).any actsB && !hardN.contains a.data.toList) := by
  intro d
  induction d with
  | zero =>
    intro i hi
    refine Ev.step (f := fun k => (marginaliaref02_In.f k (⟨#[109, 97, 116, 104, 32, 110, 111, 115, 99, 114, 105, 112, 116, 32, 112, 108, 97, 105, 110, 116, 101, 120, 116, 32, 115, 118, 103, 32, 116, 101, 109, 112, 108, 97, 116, 101]⟩ : ByteArray) a).bind fun t => some (!t)) (fun k => ?_) ?_
    · simp only [marginaliaref11_rule.l0]
      rw [if_neg (by omega)]
    · rw [List.drop_of_length_le (by omega)]
      have h := in_ev (⟨#[109, 97, 116, 104, 32, 110, 111, 115, 99, 114, 105, 112, 116, 32, 112, 108, 97, 105, 110, 116, 101, 120, 116, 32, 115, 118, 103, 32, 116, 101, 109, 112, 108, 97, 116, 101]⟩ : ByteArray) a (by decide)
      rw [hard_is] at h
      exact Ev.bind (f := fun _ t => some (!t)) h (Ev.now _)
  | succ d ih =>
    intro i hi
    have hlt : i < l.length := by omega
    have ih' := ih (i + 1) (by omega)
    rw [List.drop_eq_getElem_cons hlt, List.any_cons]
    obtain ⟨y, hy⟩ : ∃ y, y = l[i] := ⟨_, rfl⟩
    rw [← hy]
    have hrd : rdOf ByteArray.empty l (i : Int) = y := by rw [hy]; exact rd_at l i hlt
    have hex : (y.extract 0 2).toList = y.toList.take 2 := by rw [bytes_data, bytes_data, ext_take]; rfl
    have hlen : y.toList.length = y.size := size_toList y
    have hfalse : actsB y = true → Ev (fun _ => (some false : Option Bool)) (!(actsB y || (l.drop (i + 1)).any actsB) && !hardN.contains a.data.toList) := fun h => by rw [h]; exact Ev.now _
    have hnext : actsB y = false → Ev (fun k => marginaliaref11_rule.l0 k ((i + 1 : Nat) : Int) a l) (!(actsB y || (l.drop (i + 1)).any actsB) && !hardN.contains a.data.toList) := fun h => by rw [h, Bool.false_or]; exact ih'
    have hunf : ∀ k, marginaliaref11_rule.l0 (k + 1) (i : Int) a l = if y.toList = ([115, 116, 121, 108, 101] : List UInt8) then some false else if y.toList = ([115, 114, 99, 100, 111, 99] : List UInt8) then some false else if (y.size : Int) ≥ 2 then (if (y.extract 0 2).toList = ([111, 110] : List UInt8) then some false else marginaliaref11_rule.l0 k ((i + 1 : Nat) : Int) a l) else marginaliaref11_rule.l0 k ((i + 1 : Nat) : Int) a l := fun k => by
      simp only [marginaliaref11_rule.l0]
      rw [if_pos (by omega), if_pos (by omega), hrd, wrap_next (by omega)]
      by_cases h2 : (y.size : Int) ≥ 2
      · simp only [if_pos h2, show ((0 : Int) ≤ 2) = True from eq_true (by decide), show ((0 : Nat) ≤ 2) = True from eq_true (by decide), if_true, if_pos (show (2 : Int) ≤ (y.size : Int) from h2)]
      · simp only [if_neg h2]
    by_cases h1 : y.toList = ([115, 116, 121, 108, 101] : List UInt8)
    · exact Ev.step (f := fun _ => some false) (fun k => by rw [hunf, if_pos h1]) (hfalse (by unfold actsB; rw [h1]; decide))
    by_cases h2 : y.toList = ([115, 114, 99, 100, 111, 99] : List UInt8)
    · exact Ev.step (f := fun _ => some false) (fun k => by rw [hunf, if_neg h1, if_pos h2]) (hfalse (by unfold actsB; rw [h2]; decide))
    by_cases h3 : (y.size : Int) ≥ 2
    · by_cases h4 : y.toList.take 2 = ([111, 110] : List UInt8)
      · exact Ev.step (f := fun _ => some false) (fun k => by rw [hunf, if_neg h1, if_neg h2, if_pos h3, hex, if_pos h4]) (hfalse (by unfold actsB; rw [h4]; rfl))
      · exact Ev.step (f := fun k => marginaliaref11_rule.l0 k ((i + 1 : Nat) : Int) a l) (fun k => by rw [hunf, if_neg h1, if_neg h2, if_pos h3, hex, if_neg h4]) (hnext (by unfold actsB; rw [beq_eq_false_iff_ne.mpr h1, beq_eq_false_iff_ne.mpr h2, beq_eq_false_iff_ne.mpr h4]; rfl))
    · have h4 : y.toList.take 2 ≠ ([111, 110] : List UInt8) := fun he => by
        have := congrArg List.length he
        rw [List.length_take, hlen] at this
        simp at this
        omega
      exact Ev.step (f := fun k => marginaliaref11_rule.l0 k ((i + 1 : Nat) : Int) a l) (fun k => by rw [hunf, if_neg h1, if_neg h2, if_neg h3]) (hnext (by unfold actsB; rw [beq_eq_false_iff_ne.mpr h1, beq_eq_false_iff_ne.mpr h2, beq_eq_false_iff_ne.mpr h4]; rfl))
theorem rule_ev (x : S53) (hl : x.f1.length ≤ 1000) : Ev (fun k => marginaliaref11_rule.f k x.f0 x.f1) (ruleS x) := by
  have hjt : Ev (fun k => marginaliaref11_rule.j0 k true x.f0 x.f1) false := Ev.step (f := fun _ => some false) (fun k => by simp only [marginaliaref11_rule.j0]; rfl) (Ev.now _)
  have hjf : Ev (fun k => marginaliaref11_rule.j0 k false x.f0 x.f1) (!x.f1.any actsB && !hardN.contains x.f0.data.toList) := by
    refine Ev.step (f := fun k => marginaliaref11_rule.l0 k 0 x.f0 x.f1) (fun k => by simp only [marginaliaref11_rule.j0]; rfl) ?_
    have h := rule_l0 x.f0 x.f1 hl x.f1.length 0 (by omega)
    rw [List.drop_zero] at h
    exact h
  unfold marginaliaref11_rule.f ruleS
  refine Ev.way (refName_ev x.f0) (fun h => ?_) (fun h => ?_)
  · rw [h]
    refine Ev.way (refnames_ev x.f1 (by omega)) (fun h => ?_) (fun h => ?_)
    · rw [h]
      refine Ev.way (refIs_ev 2 x.f0) (fun h => ?_) (fun h => ?_)
      · rw [h]; exact hjt
      rw [h]
      refine Ev.way (refIs_ev 3 x.f0) (fun h => ?_) (fun h => ?_)
      · rw [h]; exact hjt
      rw [h]
      refine Ev.bind (f := fun k t => marginaliaref11_rule.j0 k t x.f0 x.f1) (refIs_ev 12 x.f0) ?_
      cases inK 12 x.f0 with
      | true => exact hjt
      | false => exact hjf
    · rw [h]; exact hjt
  · rw [h]; exact hjt
def farB (pre : List S53) (x : S53) : Bool := pre.all fun y => y.f0.toList != x.f0.toList
def refGo (dr : List ByteArray) : List S53 → List S53 → Bool
  | _, [] => true
  | pre, x :: r => (farB pre x && (ruleS x && !memB dr x.f0)) && refGo dr (pre ++ [x]) r
def runM (l2 : List ByteArray) : Bool := memB l2 ⟨#[100, 97, 116, 97]⟩ || (memB l2 ⟨#[106, 97, 118, 97, 115, 99, 114, 105, 112, 116]⟩ || memB l2 ⟨#[118, 98, 115, 99, 114, 105, 112, 116]⟩)
def finS (l2 : List ByteArray) (b : Bool) : Int := okE (b && !runM l2)
section
variable (l : List S53) (l1 l2 l3 : List ByteArray) (d0 : Int) (hs : SmallP l l1 l2 l3)
include hs
theorem ref_l2 (i : Nat) (hlt : i < l.length) (H1 : ∀ b, Ev (fun k => marginaliaref11_Check.l1 k b ((i + 1 : Nat) : Int) l l1 l2 l3 d0) (finS l2 (b && refGo l3 (l.take (i + 1)) (l.drop (i + 1))))) :
    ∀ (e j : Nat) (ok : Bool), j + e = i → Ev (fun k => marginaliaref11_Check.l2 k ok (i : Int) (j : Int) l l1 l2 l3 d0) (finS l2 ((ok && (farB ((l.take i).drop j) l[i] && (ruleS l[i] && !memB l3 l[i].f0))) && refGo l3 (l.take (i + 1)) (l.drop (i + 1)))) := by
  obtain ⟨h0, h1, h2, h3, ha⟩ := hs
  intro e
  induction e with
  | zero =>
    intro j ok hj
    have hjl : (l.take i).drop j = [] := List.drop_of_length_le (by rw [List.length_take]; omega)
    rw [hjl]
    refine Ev.step (f := fun k => if ok = true then ((marginaliaref11_rule.f k l[i].f0 l[i].f1).bind fun t => if t = true then ((marginaliaref11_in.f k l3 l[i].f0).bind fun t2 => marginaliaref11_Check.l1 k (!t2) ((i + 1 : Nat) : Int) l l1 l2 l3 d0) else marginaliaref11_Check.l1 k false ((i + 1 : Nat) : Int) l l1 l2 l3 d0) else marginaliaref11_Check.l1 k false ((i + 1 : Nat) : Int) l l1 l2 l3 d0) (fun k => ?_) ?_
    · simp only [marginaliaref11_Check.l2]
      rw [if_neg (show ¬ ((j : Int) < (i : Int)) by omega), if_pos (show (0 : Int) ≤ (i : Int) by omega), if_pos (show (i : Int) < (l.length : Int) by omega), rdT_at l i hlt, wrap_next (by omega)]
    · cases ok with
      | false => exact Ev.congr (fun k => if_neg (by decide)) (H1 false)
      | true =>
        refine Ev.congr (fun k => if_pos rfl) ?_
        refine Ev.way (rule_ev l[i] (ha _ (List.getElem_mem hlt))) (fun h => ?_) (fun h => ?_)
        · rw [h]
          refine Ev.bind (f := fun k t2 => marginaliaref11_Check.l1 k (!t2) ((i + 1 : Nat) : Int) l l1 l2 l3 d0) (refin_ev l3 l[i].f0 (by omega)) ?_
          exact H1 _
        · rw [h]; exact H1 false
  | succ e ih =>
    intro j ok hj
    have hjl : j < l.length := by omega
    have hd : (l.take i).drop j = l[j] :: (l.take i).drop (j + 1) := by
      rw [List.drop_eq_getElem_cons (by rw [List.length_take]; omega)]
      simp
    rw [hd]
    unfold farB
    rw [List.all_cons]
    refine Ev.step (f := fun k => if ok = true then marginaliaref11_Check.l2 k (l[j].f0.toList != l[i].f0.toList) (i : Int) ((j + 1 : Nat) : Int) l l1 l2 l3 d0 else marginaliaref11_Check.l2 k false (i : Int) ((j + 1 : Nat) : Int) l l1 l2 l3 d0) (fun k => ?_) ?_
    · simp only [marginaliaref11_Check.l2]
      rw [if_pos (show (j : Int) < (i : Int) by omega), if_pos (show (0 : Int) ≤ (j : Int) by omega), if_pos (show (j : Int) < (l.length : Int) by omega), if_pos (show (0 : Int) ≤ (i : Int) by omega), if_pos (show (i : Int) < (l.length : Int) by omega), rdT_at l i hlt, rdT_at l j hjl, wrap_next (by omega)]
    · cases ok with
      | false => exact Ev.congr (fun k => if_neg (by decide)) (ih (j + 1) false (by omega))
      | true =>
        have h := ih (j + 1) (l[j].f0.toList != l[i].f0.toList) (by omega)
        unfold farB at h
        refine Ev.congr (fun k => if_pos rfl) ?_
        rw [Bool.true_and, Bool.and_assoc (l[j].f0.toList != l[i].f0.toList)]
        exact h
theorem ref_l1 : ∀ (e i : Nat) (ok : Bool), i + e = l.length → Ev (fun k => marginaliaref11_Check.l1 k ok (i : Int) l l1 l2 l3 d0) (finS l2 (ok && refGo l3 (l.take i) (l.drop i))) := by
  intro e
  induction e with
  | zero =>
    intro i ok hi
    rw [List.drop_of_length_le (by omega)]
    refine Ev.step (f := fun k => if ok = true then ((marginaliaref11_in.f k l2 (⟨#[100, 97, 116, 97]⟩ : ByteArray)).bind fun t => if t = true then some 1 else ((marginaliaref11_in.f k l2 (⟨#[106, 97, 118, 97, 115, 99, 114, 105, 112, 116]⟩ : ByteArray)).bind fun t => if t = true then some 1 else ((marginaliaref11_in.f k l2 (⟨#[118, 98, 115, 99, 114, 105, 112, 116]⟩ : ByteArray)).bind fun t => if t = true then some 1 else some 0))) else some 1) (fun k => ?_) ?_
    · simp only [marginaliaref11_Check.l1]
      rw [if_neg (by omega)]
    · unfold finS runM refGo
      cases ok with
      | false => exact Ev.congr (fun k => if_neg (by decide)) (Ev.now _)
      | true =>
        refine Ev.congr (fun k => if_pos rfl) ?_
        have hb2 := hs.b2
        refine Ev.way (refin_ev l2 _ (by omega)) (fun h => ?_) (fun h => ?_)
        · rw [h]; exact Ev.now _
        rw [h]
        refine Ev.way (refin_ev l2 _ (by omega)) (fun h => ?_) (fun h => ?_)
        · rw [h]; exact Ev.now _
        rw [h]
        refine Ev.way (refin_ev l2 _ (by omega)) (fun h => ?_) (fun h => ?_)
        · rw [h]; exact Ev.now _
        · rw [h]; exact Ev.now _
  | succ e ih =>
    intro i ok hi
    have hlt : i < l.length := by omega
    have hb0 := hs.b0
    rw [List.drop_eq_getElem_cons hlt]
    refine Ev.step (f := fun k => marginaliaref11_Check.l2 k ok (i : Int) 0 l l1 l2 l3 d0) (fun k => ?_) ?_
    · simp only [marginaliaref11_Check.l1]
      rw [if_pos (by omega)]
    · have h := ref_l2 l l1 l2 l3 d0 hs i hlt (fun b => ih (i + 1) b (by omega)) i 0 ok (by omega)
      rw [List.drop_zero] at h
      unfold refGo
      have ht : l.take i ++ [l[i]] = l.take (i + 1) := by rw [List.take_add_one, List.getElem?_eq_getElem hlt]; rfl
      rw [ht, ← Bool.and_assoc ok]
      exact h
end
end Go.Proofs.YtnbghhddmlohoaaDoor.Pure

end

section
namespace Go.Proofs.YtnbghhddmlohoaaDoor.Pure
open Go.RowKit Go.Proofs.YtnbghhddmlohoaaDoor.PAll Go.Proofs.YtnbghhddmlohoaaDoorW.PrintWords Go.Proofs.YtnbghhddmlohoaaDoorW.PrintLast
set_option linter.unusedSimpArgs false
set_option linter.unusedVariables false

def headR (l1 l2 l3 : List ByteArray) (d : Int) : Bool := decide (1 ≤ d ∧ d ≤ 60) && (namesS l1 && (namesS l2 && namesS l3))
section
variable (l : List S53) (l1 l2 l3 : List ByteArray) (d0 : Int) (hs : SmallP l l1 l2 l3)
include hs
theorem ref_j3 (ok : Bool) : Ev (fun k => marginaliaref11_Check.j3 k ok l l1 l2 l3 d0) (finS l2 (ok && refGo l3 [] l)) := by
  refine Ev.step (f := fun k => marginaliaref11_Check.l1 k ok 0 l l1 l2 l3 d0) (fun k => by simp only [marginaliaref11_Check.j3]) ?_
  have h := ref_l1 l l1 l2 l3 d0 hs l.length 0 ok (by omega)
  rw [List.take_zero, List.drop_zero] at h
  exact h
def refX (b : Bool) : Int := if b = true then 4 else finS l2 (headR l1 l2 l3 d0 && refGo l3 [] l)
theorem ref_j2 (b : Bool) : Ev (fun k => marginaliaref11_Check.j2 k b l l1 l2 l3 d0) (refX l l1 l2 l3 d0 b) := by
  have hj := ref_j3 l l1 l2 l3 d0 hs
  obtain ⟨h0, h1, h2, h3, ha⟩ := hs
  refine Ev.step (f := fun k => if b = true then some 4 else (if d0 ≥ 1 then (if d0 ≤ 60 then ((marginaliaref11_names.f k l1).bind fun t => if t = true then ((marginaliaref11_names.f k l2).bind fun t => if t = true then ((marginaliaref11_names.f k l3).bind fun t => marginaliaref11_Check.j3 k t l l1 l2 l3 d0) else marginaliaref11_Check.j3 k false l l1 l2 l3 d0) else marginaliaref11_Check.j3 k false l l1 l2 l3 d0) else marginaliaref11_Check.j3 k false l l1 l2 l3 d0) else marginaliaref11_Check.j3 k false l l1 l2 l3 d0)) (fun k => by simp only [marginaliaref11_Check.j2]) ?_
  unfold refX headR
  cases b with
  | true => exact Ev.congr (fun k => if_pos rfl) (Ev.now _)
  | false =>
    refine Ev.congr (fun k => if_neg (by decide)) ?_
    rw [if_neg (by decide)]
    by_cases hd1 : d0 ≥ 1
    · by_cases hd2 : d0 ≤ 60
      · rw [decide_eq_true (show 1 ≤ d0 ∧ d0 ≤ 60 from ⟨hd1, hd2⟩)]
        refine Ev.congr (fun k => by rw [if_pos hd1, if_pos hd2]) ?_
        refine Ev.way (refnames_ev l1 (by omega)) (fun h => ?_) (fun h => ?_)
        · rw [h]
          refine Ev.way (refnames_ev l2 (by omega)) (fun h => ?_) (fun h => ?_)
          · rw [h]
            refine Ev.bind (f := fun k t => marginaliaref11_Check.j3 k t l l1 l2 l3 d0) (refnames_ev l3 (by omega)) ?_
            exact hj _
          · rw [h]; exact hj false
        · rw [h]; exact hj false
      · rw [decide_eq_false (show ¬ (1 ≤ d0 ∧ d0 ≤ 60) from fun h => hd2 h.2)]
        exact Ev.congr (fun k => by rw [if_pos hd1, if_neg hd2]) (hj false)
    · rw [decide_eq_false (show ¬ (1 ≤ d0 ∧ d0 ≤ 60) from fun h => hd1 h.1)]
      exact Ev.congr (fun k => by rw [if_neg hd1]) (hj false)
theorem ref_l0 : ∀ (e i : Nat) (b : Bool), i + e = l.length → Ev (fun k => marginaliaref11_Check.l0 k b (i : Int) l l1 l2 l3 d0) (refX l l1 l2 l3 d0 (b || (l.drop i).any bigR)) := by
  have hj := ref_j2 l l1 l2 l3 d0 hs
  have hb0 := hs.b0
  intro e
  induction e with
  | zero =>
    intro i b hi
    rw [List.drop_of_length_le (by omega)]
    refine Ev.step (f := fun k => marginaliaref11_Check.j2 k b l l1 l2 l3 d0) (fun k => ?_) ?_
    · simp only [marginaliaref11_Check.l0]
      rw [if_neg (show ¬ ((i : Int) < (l.length : Int)) by omega)]
    · have h := hj b
      rw [show (b || ([] : List S53).any bigR) = b by simp]
      exact h
  | succ e ih =>
    intro i b hi
    have hlt : i < l.length := by omega
    rw [List.drop_eq_getElem_cons hlt, List.any_cons]
    refine Ev.step (f := fun k => if b = true then marginaliaref11_Check.j2 k b l l1 l2 l3 d0 else marginaliaref11_Check.l0 k (bigR l[i]) ((i + 1 : Nat) : Int) l l1 l2 l3 d0) (fun k => ?_) ?_
    · simp only [marginaliaref11_Check.l0]
      rw [if_pos (show (i : Int) < (l.length : Int) by omega), if_pos (show (0 : Int) ≤ (i : Int) by omega), rdT_at l i hlt, wrap_next (by omega)]
      rfl
    · cases b with
      | true => exact Ev.congr (fun k => if_pos rfl) (hj true)
      | false =>
        rw [Bool.false_or]
        exact Ev.congr (fun k => if_neg (by decide)) (ih (i + 1) (bigR l[i]) (by omega))
theorem refcheck_raw : Ev (fun k => marginaliaref11_Check.f k l l1 l2 l3 d0) (refX l l1 l2 l3 d0 (largeB l l1 l2 l3)) := by
  have hj : ∀ b, Ev (fun k => marginaliaref11_Check.j0 k b l l1 l2 l3 d0) (refX l l1 l2 l3 d0 (b || l.any bigR)) := fun b => by
    refine Ev.step (f := fun k => marginaliaref11_Check.l0 k b 0 l l1 l2 l3 d0) (fun k => by simp only [marginaliaref11_Check.j0]) ?_
    have h := ref_l0 l l1 l2 l3 d0 hs l.length 0 b (by omega)
    rw [List.drop_zero] at h
    exact h
  unfold marginaliaref11_Check.f largeB
  by_cases a0 : (l.length : Int) > 40
  · rw [decide_eq_true (show 40 < (l.length : Int) from a0)]
    exact Ev.congr (fun k => if_pos a0) (hj true)
  rw [decide_eq_false (show ¬ 40 < (l.length : Int) from a0)]
  refine Ev.congr (fun k => if_neg a0) ?_
  by_cases a1 : (l1.length : Int) > 20
  · rw [decide_eq_true (show 20 < (l1.length : Int) from a1)]
    exact Ev.congr (fun k => if_pos a1) (hj true)
  rw [decide_eq_false (show ¬ 20 < (l1.length : Int) from a1)]
  refine Ev.congr (fun k => if_neg a1) ?_
  by_cases a2 : (l2.length : Int) > 20
  · rw [decide_eq_true (show 20 < (l2.length : Int) from a2)]
    exact Ev.congr (fun k => if_pos a2) (hj true)
  rw [decide_eq_false (show ¬ 20 < (l2.length : Int) from a2)]
  exact Ev.congr (fun k => if_neg a2) (hj _)
end
theorem chk_eq (dr : List ByteArray) : ∀ (r : List S53) (all : List ByteArray), chkGo dr all r = (r.all (restB dr) && namesS (all ++ r.map S53.f0))
  | [], all => by simp [chkGo]
  | x :: r, all => by
    unfold chkGo
    rw [chk_eq dr r (all ++ [x.f0]), List.all_cons, List.map_cons, List.append_assoc, List.singleton_append, Bool.and_assoc]
theorem far_eq (pre : List S53) (x : S53) : farB pre x = !memB (pre.map S53.f0) x.f0 := by
  unfold farB memB
  induction pre with
  | nil => rfl
  | cons y pre ih =>
    rw [List.all_cons, List.map_cons, List.any_cons, ih, Bool.not_or]
    congr 1
    show (!(y.f0.toList == x.f0.toList)) = _
    rw [bytes_data, bytes_data]
theorem ref_eq (dr : List ByteArray) : ∀ (r : List S53) (pre : List S53), refGo dr pre r = (r.all (restB dr) && nmGo (pre.map S53.f0) (r.map S53.f0))
  | [], pre => by simp [refGo, nmGo]
  | x :: r, pre => by
    unfold refGo
    rw [ref_eq dr r (pre ++ [x]), List.all_cons, List.map_cons, far_eq, List.map_append]
    show _ = (restB dr x && r.all (restB dr) && (nameB x.f0 && (!memB (pre.map S53.f0) x.f0 && nmGo (pre.map S53.f0 ++ [x.f0]) (r.map S53.f0))))
    show (!memB (pre.map S53.f0) x.f0 && (ruleS x && !memB dr x.f0) && (r.all (restB dr) && nmGo (pre.map S53.f0 ++ [x.f0]) (r.map S53.f0))) = _
    unfold ruleS restB neverS
    generalize memB (pre.map S53.f0) x.f0 = a1
    generalize nameB x.f0 = a2
    generalize namesS x.f1 = a3
    generalize (inK 2 x.f0 || (inK 3 x.f0 || inK 12 x.f0)) = a4
    generalize x.f1.any actsB = a5
    generalize hardN.contains x.f0.data.toList = a6
    generalize memB dr x.f0 = a7
    generalize r.all _ = a8
    generalize nmGo _ _ = a9
    revert a1 a2 a3 a4 a5 a6 a7 a8 a9
    decide +kernel
theorem run_eq (l2 : List ByteArray) : runM l2 = l2.any runsB := by
  unfold runM memB
  induction l2 with
  | nil => rfl
  | cons y l ih =>
    simp only [List.any_cons]
    rw [← ih]
    unfold runsB
    rw [bytes_data]
    show (_ == [100, 97, 116, 97] || _ || (_ == [106, 97, 118, 97, 115, 99, 114, 105, 112, 116] || _ || (_ == [118, 98, 115, 99, 114, 105, 112, 116] || _))) = _
    generalize (y.data.toList == [100, 97, 116, 97]) = a1
    generalize (y.data.toList == [106, 97, 118, 97, 115, 99, 114, 105, 112, 116]) = a2
    generalize (y.data.toList == [118, 98, 115, 99, 114, 105, 112, 116]) = a3
    generalize l.any _ = a4
    generalize l.any _ = a5
    generalize l.any _ = a6
    revert a1 a2 a3 a4 a5 a6
    decide +kernel
theorem refX_eq (l : List S53) (l1 l2 l3 : List ByteArray) (d : Int) : refX l l1 l2 l3 d (largeB l l1 l2 l3) = checkS l l1 l2 l3 d := by
  unfold refX checkS finS headR headB
  rw [chk_eq, ref_eq, run_eq]
  show (if _ then 4 else okE ((_ && (_ && (_ && _)) && (_ && nmGo [] _)) && _)) = (if _ then 4 else okE (_ && (_ && nmGo [] _)))
  congr 2
  rw [List.nil_append]
  generalize decide (1 ≤ d ∧ d ≤ 60) = a1
  generalize namesS l1 = a2
  generalize namesS l2 = a3
  generalize namesS l3 = a4
  generalize l2.any runsB = a5
  generalize l.all _ = a6
  generalize nmGo _ _ = a7
  revert a1 a2 a3 a4 a5 a6 a7
  decide +kernel
theorem refcheck_ev (l : List S53) (l1 l2 l3 : List ByteArray) (d : Int) (hs : SmallP l l1 l2 l3) : Ev (fun k => marginaliaref11_Check.f k l l1 l2 l3 d) (checkS l l1 l2 l3 d) := by
  rw [← refX_eq]
  exact refcheck_raw l l1 l2 l3 d hs
end Go.Proofs.YtnbghhddmlohoaaDoor.Pure

end

section
namespace Go.Proofs.YtnbghhddmlohoaaDoor.Pure
open Go.RowKit Go.Proofs.YtnbghhddmlohoaaDoor.PAll Go.Proofs.YtnbghhddmlohoaaDoorW.PrintWords Go.Proofs.YtnbghhddmlohoaaDoorW.PrintLast
theorem nodes_nil (l0 : List S53) (l1 l2 l3 : List ByteArray) (d n : Int) : policy_nodes.f l0 l1 l2 l3 d [] n = some true := by
  first | rfl | (unfold policy_nodes.f; rw [if_pos ⟨2, rfl⟩])
theorem al_zero : marginalialaw11_alive0.f 100 = some true := by
  unfold marginalialaw11_alive0.f policy_Allowed.f
  simp only [nodes_nil]
  kernel_rfl
theorem alive_ev : Ev (fun k => marginalialaw11_alive.f k) true := by
  refine Ev.of marginalialaw11_alive.mono (k := 100) ?_
  unfold marginalialaw11_alive.f
  rw [if_pos al_zero]
def textsS (l : List ByteArray) : Bool := decide (l.length ≤ 60) && l.all fun s => decide (s.size ≤ 60)
theorem texts_l0 (l : List ByteArray) (hl : l.length ≤ 1000) : ∀ (d i : Nat), i + d = l.length → Ev (fun k => marginaliaref11_texts.l0 k l (i : Int)) ((l.drop i).all fun s => decide (s.size ≤ 60)) := by
  intro d
  induction d with
  | zero =>
    intro i hi
    refine Ev.step (f := fun _ => some true) (fun k => ?_) ?_
    · simp only [marginaliaref11_texts.l0]
      rw [if_neg (show ¬ ((i : Int) < (l.length : Int)) by omega)]
    · rw [List.drop_of_length_le (by omega)]; exact Ev.now _
  | succ d ih =>
    intro i hi
    have hlt : i < l.length := by omega
    rw [List.drop_eq_getElem_cons hlt, List.all_cons]
    by_cases h : l[i].size ≤ 60
    · refine Ev.step (f := fun k => marginaliaref11_texts.l0 k l ((i + 1 : Nat) : Int)) (fun k => ?_) ?_
      · simp only [marginaliaref11_texts.l0]
        rw [if_pos (show (i : Int) < (l.length : Int) by omega), if_pos (show (0 : Int) ≤ (i : Int) by omega), rd_at l i hlt, if_neg (show ¬ ((l[i].size : Int) > 60) by omega), wrap_next (by omega)]
      · rw [decide_eq_true h, Bool.true_and]; exact ih (i + 1) (by omega)
    · refine Ev.step (f := fun _ => some false) (fun k => ?_) ?_
      · simp only [marginaliaref11_texts.l0]
        rw [if_pos (show (i : Int) < (l.length : Int) by omega), if_pos (show (0 : Int) ≤ (i : Int) by omega), rd_at l i hlt, if_pos (show (l[i].size : Int) > 60 by omega)]
      · rw [decide_eq_false h, Bool.false_and]; exact Ev.now _
theorem texts_ev (l : List ByteArray) : Ev (fun k => marginaliaref11_texts.f k l) (textsS l) := by
  unfold marginaliaref11_texts.f textsS
  by_cases h : (l.length : Int) > 60
  · rw [decide_eq_false (show ¬ l.length ≤ 60 by omega), Bool.false_and]
    exact Ev.congr (fun k => if_pos h) (Ev.now _)
  · rw [decide_eq_true (show l.length ≤ 60 by omega), Bool.true_and]
    have h0 := texts_l0 l (by omega) l.length 0 (by omega)
    rw [List.drop_zero] at h0
    exact Ev.congr (fun k => if_neg h) h0
def smallS (l0 : List S53) (l1 l2 l3 : List ByteArray) : Bool := decide (l0.length ≤ 60) && (textsS l1 && (textsS l2 && (textsS l3 && l0.all fun x => decide (x.f0.size ≤ 60) && textsS x.f1)))
theorem small_l0 (l : List S53) (l1 l2 l3 : List ByteArray) (d0 : Int) (hl : l.length ≤ 1000) : ∀ (d i : Nat), i + d = l.length → Ev (fun k => marginaliaref11_Small.l0 k (i : Int) l l1 l2 l3 d0) ((l.drop i).all fun x => decide (x.f0.size ≤ 60) && textsS x.f1) := by
  intro d
  induction d with
  | zero =>
    intro i hi
    refine Ev.step (f := fun _ => some true) (fun k => ?_) ?_
    · simp only [marginaliaref11_Small.l0]
      rw [if_neg (show ¬ ((i : Int) < (l.length : Int)) by omega)]
    · rw [List.drop_of_length_le (by omega)]; exact Ev.now _
  | succ d ih =>
    intro i hi
    have hlt : i < l.length := by omega
    rw [List.drop_eq_getElem_cons hlt, List.all_cons]
    by_cases h : l[i].f0.size ≤ 60
    · refine Ev.step (f := fun k => (marginaliaref11_texts.f k l[i].f1).bind fun t => if t = true then marginaliaref11_Small.l0 k ((i + 1 : Nat) : Int) l l1 l2 l3 d0 else some false) (fun k => ?_) ?_
      · simp only [marginaliaref11_Small.l0]
        rw [if_pos (show (i : Int) < (l.length : Int) by omega), if_pos (show (0 : Int) ≤ (i : Int) by omega), rdT_at l i hlt, if_neg (show ¬ ((l[i].f0.size : Int) > 60) by omega), wrap_next (by omega)]
      · rw [decide_eq_true h, Bool.true_and]
        refine Ev.way (texts_ev l[i].f1) (fun h => ?_) (fun h => ?_)
        · rw [h]; exact ih (i + 1) (by omega)
        · rw [h]; exact Ev.now _
    · refine Ev.step (f := fun _ => some false) (fun k => ?_) ?_
      · simp only [marginaliaref11_Small.l0]
        rw [if_pos (show (i : Int) < (l.length : Int) by omega), if_pos (show (0 : Int) ≤ (i : Int) by omega), rdT_at l i hlt, if_pos (show (l[i].f0.size : Int) > 60 by omega)]
      · rw [decide_eq_false h, Bool.false_and, Bool.false_and]; exact Ev.now _
theorem small_ev (l0 : List S53) (l1 l2 l3 : List ByteArray) (d : Int) : Ev (fun k => marginaliaref11_Small.f k l0 l1 l2 l3 d) (smallS l0 l1 l2 l3) := by
  have hjt : Ev (fun k => marginaliaref11_Small.j0 k true l0 l1 l2 l3 d) false := Ev.step (f := fun _ => some false) (fun k => by simp only [marginaliaref11_Small.j0]; rfl) (Ev.now _)
  unfold marginaliaref11_Small.f smallS
  by_cases h : (l0.length : Int) > 60
  · rw [decide_eq_false (show ¬ l0.length ≤ 60 by omega), Bool.false_and]
    exact Ev.congr (fun k => if_pos h) hjt
  · have hjf : Ev (fun k => marginaliaref11_Small.j0 k false l0 l1 l2 l3 d) (l0.all fun x => decide (x.f0.size ≤ 60) && textsS x.f1) := by
      refine Ev.step (f := fun k => marginaliaref11_Small.l0 k 0 l0 l1 l2 l3 d) (fun k => by simp only [marginaliaref11_Small.j0]; rfl) ?_
      have h0 := small_l0 l0 l1 l2 l3 d (by omega) l0.length 0 (by omega)
      rw [List.drop_zero] at h0
      exact h0
    rw [decide_eq_true (show l0.length ≤ 60 by omega), Bool.true_and]
    refine Ev.congr (fun k => if_neg h) ?_
    refine Ev.way (texts_ev l1) (fun h => ?_) (fun h => ?_)
    · rw [h]
      refine Ev.way (texts_ev l2) (fun h => ?_) (fun h => ?_)
      · rw [h]
        refine Ev.bind (f := fun k t => marginaliaref11_Small.j0 k (!t) l0 l1 l2 l3 d) (texts_ev l3) ?_
        cases textsS l3 with
        | true => exact hjf
        | false => exact hjt
      · rw [h]; exact hjt
    · rw [h]; exact hjt
theorem small_is {l0 : List S53} {l1 l2 l3 : List ByteArray} (h : smallS l0 l1 l2 l3 = true) : SmallP l0 l1 l2 l3 := by
  unfold smallS textsS at h
  simp only [Bool.and_eq_true, decide_eq_true_eq, List.all_eq_true] at h
  obtain ⟨h0, ⟨h1, _⟩, ⟨h2, _⟩, ⟨h3, _⟩, ha⟩ := h
  exact ⟨by omega, by omega, by omega, by omega, fun x hx => by have := (ha x hx).2.1; omega⟩
end Go.Proofs.YtnbghhddmlohoaaDoor.Pure

end

section
namespace Go.Proofs.YtnbghhddmlohoaaDoor.Pure
open Go.RowKit Go.Proofs.YtnbghhddmlohoaaDoor.PAll Go.Proofs.YtnbghhddmlohoaaDoorW.PrintWords Go.Proofs.YtnbghhddmlohoaaDoorW.PrintLast
def fnd (l : List S53) (n : ByteArray) : Option S53 := l.find? fun x => x.f0.toList == n.toList
def fndR : Option S53 → ByteArray × List ByteArray × Bool
  | none => ((⟨#[]⟩ : ByteArray), [], false)
  | some x => (x.f0, x.f1, true)
theorem prule_l0 (l : List S53) (n : ByteArray) (hl : l.length ≤ 1000) : ∀ (d i : Nat), i + d = l.length → Ev (fun k => policy_rule.l0 k n l (l.length : Int) (i : Int)) (fndR (fnd (l.drop i) n)) := by
  intro d
  induction d with
  | zero =>
    intro i hi
    refine Ev.step (f := fun _ => some ((⟨#[]⟩ : ByteArray), ([] : List ByteArray), false)) (fun k => ?_) ?_
    · simp only [policy_rule.l0]
      rw [if_neg (show ¬ ((i : Int) < (l.length : Int)) by omega)]
    · rw [List.drop_of_length_le (by omega)]; exact Ev.now _
  | succ d ih =>
    intro i hi
    have hlt : i < l.length := by omega
    rw [List.drop_eq_getElem_cons hlt]
    unfold fnd
    rw [List.find?_cons]
    by_cases h : l[i].f0.toList = n.toList
    · refine Ev.step (f := fun _ => some (l[i].f0, l[i].f1, true)) (fun k => ?_) ?_
      · simp only [policy_rule.l0]
        rw [if_pos (show (i : Int) < (l.length : Int) by omega), if_pos (show (0 : Int) ≤ (i : Int) by omega), rdT_at l i hlt, if_pos (show (i : Int) < (l.length : Int) by omega), if_pos h]
      · rw [beq_iff_eq.mpr h]; exact Ev.now _
    · refine Ev.step (f := fun k => policy_rule.l0 k n l (l.length : Int) ((i + 1 : Nat) : Int)) (fun k => ?_) ?_
      · simp only [policy_rule.l0]
        rw [if_pos (show (i : Int) < (l.length : Int) by omega), if_pos (show (0 : Int) ≤ (i : Int) by omega), rdT_at l i hlt, if_pos (show (i : Int) < (l.length : Int) by omega), if_neg h, wrap_next (by omega)]
      · rw [beq_eq_false_iff_ne.mpr h]; exact ih (i + 1) (by omega)
theorem prule_ev (l : List S53) (l1 l2 l3 : List ByteArray) (d0 : Int) (n : ByteArray) (hl : l.length ≤ 1000) : Ev (fun k => policy_rule.f k l l1 l2 l3 d0 n) (fndR (fnd l n)) := by
  have h := prule_l0 l n hl l.length 0 (by omega)
  rw [List.drop_zero] at h
  exact h
theorem fnd_mem {l : List S53} {n : ByteArray} {x : S53} (h : fnd l n = some x) : x ∈ l := List.mem_of_find?_eq_some h
section
variable (l : List S53) (l1 l2 l3 : List ByteArray) (d0 : Int)
def letS (x : S53) (an av : ByteArray) : Bool := memB x.f1 an && (!memB l1 an || safeS av l2)
def elemS (n : ByteArray) : Bool := (fnd l n).isSome && checkS l l1 l2 l3 d0 == 0
def attrS (n an av : ByteArray) : Bool := match fnd l n with
  | none => false
  | some x => checkS l l1 l2 l3 d0 == 0 && letS l1 l2 x an av
variable (hs : SmallP l l1 l2 l3)
include hs
theorem elem_ev (n : ByteArray) : Ev (fun k => policy_Element.f k l l1 l2 l3 d0 n) (elemS l l1 l2 l3 d0 n) := by
  unfold policy_Element.f elemS
  refine Ev.bind (f := fun k bt => if bt.2.2 = true then ((policy_Check.f k l l1 l2 l3 d0).bind fun t230 => some (t230 == 0)) else some false) (prule_ev l l1 l2 l3 d0 n hs.b0) ?_
  cases fnd l n with
  | none => exact Ev.congr (fun k => if_neg (by decide)) (Ev.now _)
  | some x =>
    refine Ev.congr (fun k => if_pos rfl) ?_
    refine Ev.bind (f := fun _ t => some (t == 0)) (check_ev l l1 l2 l3 d0 hs) ?_
    rw [show (some x).isSome = true from rfl, Bool.true_and]
    exact Ev.now _
theorem let_ev (nn : ByteArray) (x : S53) (an av : ByteArray) (hx : x.f1.length ≤ 1000) (hav : av.size ≤ 1000000) : Ev (fun k => policy_let.f k l l1 l2 l3 d0 nn x.f1 an av) (letS l1 l2 x an av) := by
  have b1 := hs.b1
  have b2 := hs.b2
  unfold policy_let.f letS
  refine Ev.way (contains_ev x.f1 an (by omega)) (fun h => ?_) (fun h => ?_)
  · rw [show memB x.f1 an = true from h, Bool.true_and]
    refine Ev.way (contains_ev l1 an (by omega)) (fun h => ?_) (fun h => ?_)
    · rw [show memB l1 an = true from h, Bool.not_true, Bool.false_or]
      exact Ev.pass (safe_ev av l2 hav (by omega))
    · rw [show memB l1 an = false from h]; exact Ev.now _
  · rw [show memB x.f1 an = false from h]; exact Ev.now _
theorem attr_ev (n an av : ByteArray) (hav : av.size ≤ 1000000) : Ev (fun k => policy_Attr.f k l l1 l2 l3 d0 n an av) (attrS l l1 l2 l3 d0 n an av) := by
  unfold policy_Attr.f attrS
  refine Ev.bind (f := fun k bt => if bt.2.2 = true then ((policy_Check.f k l l1 l2 l3 d0).bind fun t261 => if t261 = 0 then ((policy_let.f k l l1 l2 l3 d0 bt.1 bt.2.1 an av).bind fun t262 => some t262) else some false) else some false) (prule_ev l l1 l2 l3 d0 n hs.b0) ?_
  cases h : fnd l n with
  | none => exact Ev.congr (fun k => if_neg (by decide)) (Ev.now _)
  | some x =>
    refine Ev.congr (fun k => if_pos rfl) ?_
    refine Ev.bind (f := fun k t => if t = 0 then ((policy_let.f k l l1 l2 l3 d0 x.f0 x.f1 an av).bind fun t262 => some t262) else some false) (check_ev l l1 l2 l3 d0 hs) ?_
    show Ev _ (checkS l l1 l2 l3 d0 == 0 && letS l1 l2 x an av)
    by_cases hc : checkS l l1 l2 l3 d0 = 0
    · rw [beq_iff_eq.mpr hc, Bool.true_and]
      exact Ev.congr (fun k => if_pos hc) (Ev.pass (let_ev l l1 l2 l3 d0 hs x.f0 x an av (hs.ba x (fnd_mem h)) hav))
    · rw [beq_eq_false_iff_ne.mpr hc, Bool.false_and]
      exact Ev.congr (fun k => if_neg hc) (Ev.now _)
omit hs in
def findI (n : ByteArray) : Int := if checkS l l1 l2 l3 d0 = 0 then (match l.findIdx? fun x => x.f0.toList == n.toList with | none => -1 | some i => (i : Int)) else -1
theorem find_l0 (n : ByteArray) : ∀ (d i : Nat), i + d = l.length → Ev (fun k => marginaliaref11_find.l0 k n (i : Int) l l1 l2 l3 d0) (match (l.drop i).findIdx? fun x => x.f0.toList == n.toList with | none => -1 | some j => ((i + j : Nat) : Int)) := by
  have b0 := hs.b0
  intro d
  induction d with
  | zero =>
    intro i hi
    refine Ev.step (f := fun _ => some (-1)) (fun k => ?_) ?_
    · simp only [marginaliaref11_find.l0]
      rw [if_neg (show ¬ ((i : Int) < (l.length : Int)) by omega)]
    · rw [List.drop_of_length_le (by omega)]; exact Ev.now _
  | succ d ih =>
    intro i hi
    have hlt : i < l.length := by omega
    rw [List.drop_eq_getElem_cons hlt, List.findIdx?_cons]
    by_cases h : l[i].f0.toList = n.toList
    · refine Ev.step (f := fun _ => some (i : Int)) (fun k => ?_) ?_
      · simp only [marginaliaref11_find.l0]
        rw [if_pos (show (i : Int) < (l.length : Int) by omega), if_pos (show (0 : Int) ≤ (i : Int) by omega), rdT_at l i hlt, if_pos h]
      · rw [beq_iff_eq.mpr h]; exact Ev.now _
    · refine Ev.step (f := fun k => marginaliaref11_find.l0 k n ((i + 1 : Nat) : Int) l l1 l2 l3 d0) (fun k => ?_) ?_
      · simp only [marginaliaref11_find.l0]
        rw [if_pos (show (i : Int) < (l.length : Int) by omega), if_pos (show (0 : Int) ≤ (i : Int) by omega), rdT_at l i hlt, if_neg h, wrap_next (by omega)]
      · rw [beq_eq_false_iff_ne.mpr h]
        have hh := ih (i + 1) (by omega)
        cases hf : (l.drop (i + 1)).findIdx? (fun x => x.f0.toList == n.toList) with
        | none => rw [hf] at hh; exact hh
        | some j =>
          rw [hf] at hh
          have e : ((i + 1 + j : Nat) : Int) = ((i + (j + 1) : Nat) : Int) := by omega
          simp only [e] at hh
          exact hh
theorem find_ev (n : ByteArray) : Ev (fun k => marginaliaref11_find.f k l l1 l2 l3 d0 n) (findI l l1 l2 l3 d0 n) := by
  unfold marginaliaref11_find.f findI
  refine Ev.bind (f := fun k t => if t = 0 then marginaliaref11_find.l0 k n 0 l l1 l2 l3 d0 else some (-1)) (refcheck_ev l l1 l2 l3 d0 hs) ?_
  by_cases hc : checkS l l1 l2 l3 d0 = 0
  · rw [if_pos hc]
    have h := find_l0 l l1 l2 l3 d0 hs n l.length 0 (by omega)
    rw [List.drop_zero] at h
    refine Ev.congr (fun k => if_pos hc) ?_
    cases hf : l.findIdx? (fun x => x.f0.toList == n.toList) with
    | none => rw [hf] at h; exact h
    | some j =>
      rw [hf] at h
      simp only [Nat.zero_add] at h
      exact h
  · rw [if_neg hc]
    exact Ev.congr (fun k => if_neg hc) (Ev.now _)
omit hs in
theorem find_is (n : ByteArray) : (fnd l n = none ∧ l.findIdx? (fun x => x.f0.toList == n.toList) = none) ∨ ∃ (i : Nat) (h : i < l.length), l.findIdx? (fun x => x.f0.toList == n.toList) = some i ∧ fnd l n = some l[i] := by
  unfold fnd
  cases hf : l.findIdx? (fun x => x.f0.toList == n.toList) with
  | none =>
    left
    refine ⟨?_, rfl⟩
    rw [List.findIdx?_eq_none_iff] at hf
    rw [List.find?_eq_none]
    intro x hx
    rw [hf x hx]; decide
  | some i =>
    right
    obtain ⟨h, hp, hq⟩ := List.findIdx?_eq_some_iff_getElem.mp hf
    refine ⟨i, h, rfl, ?_⟩
    rw [List.find?_eq_some_iff_getElem]
    exact ⟨hp, i, h, rfl, fun j hj => by rw [Bool.eq_false_iff.mpr (hq j hj)]; rfl⟩
theorem refelem_ev (n : ByteArray) : Ev (fun k => marginaliaref11_Element.f k l l1 l2 l3 d0 n) (elemS l l1 l2 l3 d0 n) := by
  unfold marginaliaref11_Element.f
  refine Ev.bind (f := fun _ t => some (decide (t ≥ 0))) (find_ev l l1 l2 l3 d0 hs n) ?_
  unfold elemS findI
  by_cases hc : checkS l l1 l2 l3 d0 = 0
  · rw [if_pos hc, beq_iff_eq.mpr hc, Bool.and_true]
    rcases find_is l n with ⟨h1, h2⟩ | ⟨i, hi, h1, h2⟩
    · rw [h1, h2]; exact Ev.now _
    · rw [h1, h2]
      show Ev (fun _ => some (decide ((i : Int) ≥ 0))) true
      rw [decide_eq_true (show (i : Int) ≥ 0 by omega)]
      exact Ev.now _
  · rw [if_neg hc, beq_eq_false_iff_ne.mpr hc, Bool.and_false]
    exact Ev.now _
theorem refattr_ev (n an av : ByteArray) (hav : av.size ≤ 1000000) : Ev (fun k => marginaliaref11_Attr.f k l l1 l2 l3 d0 n an av) (attrS l l1 l2 l3 d0 n an av) := by
  have b1 := hs.b1
  have b2 := hs.b2
  unfold marginaliaref11_Attr.f
  refine Ev.bind (f := fun k t476 => (if t476 ≥ 0 then (if 0 ≤ t476 then (if t476 < (l.length : Int) then ((marginaliaref11_in.f k ((rd_T53 l t476).f1) an).bind fun t478 => (if t478 = true then ((marginaliaref11_in.f k l1 an).bind fun t479 => (if t479 = true then ((marginaliaref10_Safe.f k av l2).bind fun t480 => (some t480)) else (some true))) else (some false))) else (none)) else (none)) else (some false))) (find_ev l l1 l2 l3 d0 hs n) ?_
  unfold attrS findI
  by_cases hc : checkS l l1 l2 l3 d0 = 0
  · rw [if_pos hc, beq_iff_eq.mpr hc]
    rcases find_is l n with ⟨h1, h2⟩ | ⟨i, hi, h1, h2⟩
    · rw [h1, h2]; exact Ev.now _
    · rw [h1, h2]
      have hx := hs.ba l[i] (List.getElem_mem hi)
      show Ev _ (true && letS l1 l2 l[i] an av)
      rw [Bool.true_and]
      unfold letS
      refine Ev.congr (f := fun k => (marginaliaref11_in.f k l[i].f1 an).bind fun t478 => (if t478 = true then ((marginaliaref11_in.f k l1 an).bind fun t479 => (if t479 = true then ((marginaliaref10_Safe.f k av l2).bind fun t480 => (some t480)) else (some true))) else (some false))) (fun k => ?_) ?_
      · show (if (i : Int) ≥ 0 then _ else _) = _
        rw [if_pos (show (i : Int) ≥ 0 by omega), if_pos (show (0 : Int) ≤ (i : Int) by omega), if_pos (show (i : Int) < (l.length : Int) by omega), rdT_at l i hi]
      refine Ev.way (refin_ev l[i].f1 an (by omega)) (fun h => ?_) (fun h => ?_)
      · rw [h, Bool.true_and]
        refine Ev.way (refin_ev l1 an (by omega)) (fun h => ?_) (fun h => ?_)
        · rw [h, Bool.not_true, Bool.false_or]
          exact Ev.pass (rsafe_ev av l2 hav (by omega))
        · rw [h]; exact Ev.now _
      · rw [h]; exact Ev.now _
  · rw [if_neg hc, beq_eq_false_iff_ne.mpr hc]
    cases fnd l n with
    | none => exact Ev.now _
    | some x => exact Ev.now _
end
end Go.Proofs.YtnbghhddmlohoaaDoor.Pure

end

section
namespace Go.Proofs.YtnbghhddmlohoaaDoor.Pure
open Go.RowKit Go.Proofs.YtnbghhddmlohoaaDoor.PAll Go.Proofs.YtnbghhddmlohoaaDoorW.PrintWords Go.Proofs.YtnbghhddmlohoaaDoorW.PrintLast
theorem PolicyLets : policyLetsOp.Plain := by
  intro x0 n a hg hn ha
  apply Ev.rounds
  unfold marginalialaw11_PolicyLets.f
  have hp : Ev (fun k => marginalialaw11_PolicyLets.j0 k n true x0.f0 x0.f1 x0.f2 x0.f3 x0.f4 a.f0 a.f1) true :=
    Ev.step (f := fun k => (marginalialaw11_alive.f k).bind fun t => some t) (fun k => by simp only [marginalialaw11_PolicyLets.j0]; rfl) (Ev.bind (f := fun _ t => some t) alive_ev (Ev.now _))
  refine Ev.way (small_ev x0.f0 x0.f1 x0.f2 x0.f3 x0.f4) (fun h => ?_) (fun h => hp)
  have hs := small_is h
  by_cases h1 : (n.size : Int) > 1000
  · exact Ev.congr (fun k => if_pos h1) hp
  refine Ev.congr (fun k => if_neg h1) ?_
  by_cases h2 : (a.f0.size : Int) > 1000
  · exact Ev.congr (fun k => if_pos h2) hp
  refine Ev.congr (fun k => if_neg h2) ?_
  by_cases h3 : (a.f1.size : Int) > 1000
  · rw [decide_eq_true h3]; exact hp
  rw [decide_eq_false h3]
  have hav : a.f1.size ≤ 1000000 := by omega
  refine Ev.step (f := fun k => (marginalialaw11_alive.f k).bind fun t485 => (if t485 = true then ((policy_Element.f k x0.f0 x0.f1 x0.f2 x0.f3 x0.f4 n).bind fun t486 => ((marginaliaref11_Element.f k x0.f0 x0.f1 x0.f2 x0.f3 x0.f4 n).bind fun t487 => (if (t486 == t487) = true then ((policy_Attr.f k x0.f0 x0.f1 x0.f2 x0.f3 x0.f4 n a.f0 a.f1).bind fun t488 => ((marginaliaref11_Attr.f k x0.f0 x0.f1 x0.f2 x0.f3 x0.f4 n a.f0 a.f1).bind fun t489 => (some (t488 == t489)))) else (some false)))) else (some false))) (fun k => by simp only [marginalialaw11_PolicyLets.j0]; rfl) ?_
  refine Ev.way alive_ev (fun _ => ?_) (fun h => absurd h (by decide))
  refine Ev.bind (f := fun k t486 => ((marginaliaref11_Element.f k x0.f0 x0.f1 x0.f2 x0.f3 x0.f4 n).bind fun t487 => (if (t486 == t487) = true then ((policy_Attr.f k x0.f0 x0.f1 x0.f2 x0.f3 x0.f4 n a.f0 a.f1).bind fun t488 => ((marginaliaref11_Attr.f k x0.f0 x0.f1 x0.f2 x0.f3 x0.f4 n a.f0 a.f1).bind fun t489 => (some (t488 == t489)))) else (some false)))) (elem_ev x0.f0 x0.f1 x0.f2 x0.f3 x0.f4 hs n) ?_
  refine Ev.bind (f := fun k t487 => (if (elemS x0.f0 x0.f1 x0.f2 x0.f3 x0.f4 n == t487) = true then ((policy_Attr.f k x0.f0 x0.f1 x0.f2 x0.f3 x0.f4 n a.f0 a.f1).bind fun t488 => ((marginaliaref11_Attr.f k x0.f0 x0.f1 x0.f2 x0.f3 x0.f4 n a.f0 a.f1).bind fun t489 => (some (t488 == t489)))) else (some false))) (refelem_ev x0.f0 x0.f1 x0.f2 x0.f3 x0.f4 hs n) ?_
  refine Ev.congr (fun k => if_pos (beq_self_eq_true _)) ?_
  refine Ev.bind (f := fun k t488 => ((marginaliaref11_Attr.f k x0.f0 x0.f1 x0.f2 x0.f3 x0.f4 n a.f0 a.f1).bind fun t489 => (some (t488 == t489)))) (attr_ev x0.f0 x0.f1 x0.f2 x0.f3 x0.f4 hs n a.f0 a.f1 hav) ?_
  refine Ev.bind (f := fun k t489 => some (attrS x0.f0 x0.f1 x0.f2 x0.f3 x0.f4 n a.f0 a.f1 == t489)) (refattr_ev x0.f0 x0.f1 x0.f2 x0.f3 x0.f4 hs n a.f0 a.f1 hav) ?_
  exact ⟨0, fun _ _ => by rw [beq_self_eq_true]⟩
end Go.Proofs.YtnbghhddmlohoaaDoor.Pure

end
