-- Laid together by a program of this session (merge.py) out of its own texts and of the print's, for one law. Lean checks it.
import Derived.Test.YtnbghhddmlohoaaDoorMPn2
section
namespace Go.Proofs.YtnbghhddmlohoaaDoor.Pure
open Go.RowKit Go.Proofs.YtnbghhddmlohoaaDoor.PAll Go.Proofs.YtnbghhddmlohoaaDoorW.PrintWords Go.Proofs.YtnbghhddmlohoaaDoorW.PrintLast
theorem okE_zero {b : Bool} (h : okE b = 0) : b = true := by
  cases b with
  | true => rfl
  | false => exact absurd h (by decide)
theorem check_ok {l : List S53} {l1 l2 l3 : List ByteArray} {d : Int} (h : checkS l l1 l2 l3 d = 0) : l.all (restB l3) = true ∧ l2.any runsB = false := by
  unfold checkS headB at h
  split at h
  · exact absurd h (by decide)
  · have h' := okE_zero h
    rw [chk_eq] at h'
    simp only [Bool.and_eq_true, Bool.not_eq_true'] at h'
    exact ⟨h'.2.1, h'.1.2.2.2.2⟩
theorem elem_never {l : List S53} {l1 l2 l3 : List ByteArray} {d : Int} {n : ByteArray} (h : elemS l l1 l2 l3 d n = true) : neverS n = false := by
  unfold elemS at h
  simp only [Bool.and_eq_true, beq_iff_eq] at h
  obtain ⟨h1, h2⟩ := h
  obtain ⟨x, hx⟩ := Option.isSome_iff_exists.mp h1
  have hr := List.all_eq_true.mp (check_ok h2).1 x (fnd_mem hx)
  unfold restB at hr
  simp only [Bool.and_eq_true, Bool.not_eq_true'] at hr
  have he : x.f0.toList = n.toList := by
    have := List.find?_some (show l.find? (fun y => y.f0.toList == n.toList) = some x from hx)
    exact beq_iff_eq.mp this
  have : x.f0 = n := ba_ext (by rw [← bytes_data, ← bytes_data]; exact he)
  rw [← this]
  exact hr.1
theorem attr_elem {l : List S53} {l1 l2 l3 : List ByteArray} {d : Int} {n an av : ByteArray} (h : attrS l l1 l2 l3 d n an av = true) : elemS l l1 l2 l3 d n = true := by
  unfold attrS at h
  unfold elemS
  cases hf : fnd l n with
  | none => rw [hf] at h; exact absurd h (by simp)
  | some x =>
    rw [hf] at h
    simp only [Bool.and_eq_true] at h
    simp [h.1]
theorem attr_acts {l : List S53} {l1 l2 l3 : List ByteArray} {d : Int} {n an av : ByteArray} (h : attrS l l1 l2 l3 d n an av = true) : actsB an = false ∧ (memB l1 an = false ∨ safeS av l2 = true) ∧ l2.any runsB = false := by
  unfold attrS at h
  cases hf : fnd l n with
  | none => rw [hf] at h; exact absurd h (by simp)
  | some x =>
    rw [hf] at h
    simp only [Bool.and_eq_true, beq_iff_eq] at h
    obtain ⟨h1, h2⟩ := h
    have hc := check_ok h1
    have hr := List.all_eq_true.mp hc.1 x (fnd_mem hf)
    unfold restB at hr
    simp only [Bool.and_eq_true, Bool.not_eq_true'] at hr
    unfold letS at h2
    simp only [Bool.and_eq_true, Bool.or_eq_true, Bool.not_eq_true'] at h2
    refine ⟨?_, h2.2, hc.2⟩
    obtain ⟨y, hy, he⟩ := List.any_eq_true.mp h2.1
    have e : y = an := ba_ext (beq_iff_eq.mp he)
    have hn := hr.2.2.2
    rw [List.any_eq_false] at hn
    have := hn y hy
    rw [e] at this
    simpa using this
theorem java_not {l : List S53} {l1 l2 l3 : List ByteArray} {d : Int} {n an av : ByteArray} (h : attrS l l1 l2 l3 d n an av = true) (h2 : (ofR (ofS av)).2 = true) (h3 : (ofR (ofS av)).1.toList = [106, 97, 118, 97, 115, 99, 114, 105, 112, 116]) : memB l1 an = false := by
  obtain ⟨_, hs, hr⟩ := attr_acts h
  rcases hs with hs | hs
  · exact hs
  · exfalso
    unfold safeS at hs
    cases ho : ofS av with
    | none => rw [ho] at h2; exact absurd h2 (by decide)
    | some t =>
      rw [ho] at hs h3
      have ht : t = [106, 97, 118, 97, 115, 99, 114, 105, 112, 116] := by
        rw [bytes_data] at h3
        simpa [ofR] using h3
      obtain ⟨x, hx, he⟩ := List.any_eq_true.mp hs
      rw [List.any_eq_false] at hr
      refine hr x hx ?_
      unfold runsB
      rw [bytes_data, beq_iff_eq.mp he, ht]
      rfl
section
variable (l : List S53) (l1 l2 l3 : List ByteArray) (d : Int) (an av : ByteArray)
theorem never_l0 (A : Bool) (s : ByteArray) (ok : Bool) (hl : l1.length ≤ 1000) (H : A = true → ok = true → s.toList = [106, 97, 118, 97, 115, 99, 114, 105, 112, 116] → memB l1 an = false) :
    ∀ (e i : Nat), i + e = l1.length → Ev (fun k => marginalialaw11_PolicyNever.l0 k A s ok (i : Int) l l1 l2 l3 d an av) true := by
  intro e
  induction e with
  | zero =>
    intro i hi
    refine Ev.step (f := fun k => (marginalialaw11_alive.f k).bind fun t => some t) (fun k => ?_) (Ev.bind (f := fun _ t => some t) alive_ev (Ev.now _))
    simp only [marginalialaw11_PolicyNever.l0]
    rw [if_neg (show ¬ ((i : Int) < (l1.length : Int)) by omega)]
  | succ e ih =>
    intro i hi
    have hlt : i < l1.length := by omega
    refine Ev.step (f := fun k => marginalialaw11_PolicyNever.l0 k A s ok ((i + 1 : Nat) : Int) l l1 l2 l3 d an av) (fun k => ?_) (ih (i + 1) (by omega))
    simp only [marginalialaw11_PolicyNever.l0]
    rw [if_pos (show (i : Int) < (l1.length : Int) by omega), wrap_next (by omega)]
    by_cases hA : A = true
    · rw [if_pos hA]
      by_cases hok : ok = true
      · rw [if_pos hok]
        by_cases hs : s.toList = ([106, 97, 118, 97, 115, 99, 114, 105, 112, 116] : List UInt8)
        · rw [if_pos hs, if_pos (show (0 : Int) ≤ (i : Int) by omega), rd_at l1 i hlt]
          have hm := H hA hok hs
          unfold memB at hm
          rw [List.any_eq_false] at hm
          have := hm l1[i] (List.getElem_mem hlt)
          rw [if_neg (fun hh => this (by rw [bytes_data, bytes_data] at hh; rw [hh]; exact beq_self_eq_true _))]
        · rw [if_neg hs]
      · rw [if_neg hok]
    · rw [if_neg hA]
variable (hs : SmallP l l1 l2 l3) (n : ByteArray) (hav : av.size ≤ 1000000)
include hs hav
theorem never_j1 : Ev (fun k => marginalialaw11_PolicyNever.j1 k (attrS l l1 l2 l3 d n an av) false l l1 l2 l3 d an av) true := by
  have hj2 : Ev (fun k => marginalialaw11_PolicyNever.j2 k (attrS l l1 l2 l3 d n an av) false l l1 l2 l3 d an av) true := by
    refine Ev.step (f := fun k => (scheme_Of.f k av).bind fun bt => marginalialaw11_PolicyNever.l0 k (attrS l l1 l2 l3 d n an av) bt.1 bt.2 0 l l1 l2 l3 d an av) (fun k => by simp only [marginalialaw11_PolicyNever.j2]; rfl) ?_
    refine Ev.bind (f := fun k bt => marginalialaw11_PolicyNever.l0 k (attrS l l1 l2 l3 d n an av) bt.1 bt.2 0 l l1 l2 l3 d an av) (of_ev av hav) ?_
    exact never_l0 l l1 l2 l3 d an av _ _ _ hs.b1 (fun hA h2 h3 => java_not hA h2 h3) l1.length 0 (by omega)
  refine Ev.step (f := fun k => marginalialaw11_PolicyNever.j2 k (attrS l l1 l2 l3 d n an av) false l l1 l2 l3 d an av) (fun k => ?_) hj2
  simp only [marginalialaw11_PolicyNever.j1]
  rw [if_neg (show ¬ (false = true) by decide)]
  by_cases hA : attrS l l1 l2 l3 d n an av = true
  · rw [if_pos hA]
    by_cases h2 : (an.size : Int) ≥ 2
    · rw [if_pos h2, if_pos (show (0 : Int) < (an.size : Int) by omega)]
      by_cases h3 : bt an 0 = 111
      · rw [if_pos h3, if_pos (show (1 : Int) < (an.size : Int) by omega)]
        have hact := (attr_acts hA).1
        have hne : (bt an 1 == 110) = false := by
          rw [beq_eq_false_iff_ne]
          intro h4
          have hb0 := bt_nat an 0 (by omega)
          have hb1 := bt_nat an 1 (by omega)
          have hlen := size_toList an
          match hL : an.toList, hlen with
          | [], hlen => simp at hlen; omega
          | [_], hlen => simp at hlen; omega
          | c0 :: c1 :: r, _ =>
            rw [hL] at hb0 hb1
            simp only [List.getD_cons_zero, List.getD_cons_succ] at hb0 hb1
            have e0 : c0 = 111 := by
              apply UInt8.toNat_inj.mp
              have : ((c0.toNat : Nat) : Int) = 111 := by rw [← hb0]; exact h3
              show c0.toNat = 111
              omega
            have e1 : c1 = 110 := by
              apply UInt8.toNat_inj.mp
              have : ((c1.toNat : Nat) : Int) = 110 := by rw [← hb1]; exact h4
              show c1.toNat = 110
              omega
            unfold actsB at hact
            rw [hL, e0, e1] at hact
            simp at hact
        rw [hne]
      · rw [if_neg h3]
    · rw [if_neg h2]
  · rw [if_neg hA]
end
theorem PolicyNever : policyNeverOp.Plain := by
  intro x0 n a hg hn ha
  apply Ev.rounds
  unfold marginalialaw11_PolicyNever.f
  have hp : Ev (fun k => marginalialaw11_PolicyNever.j0 k n true x0.f0 x0.f1 x0.f2 x0.f3 x0.f4 a.f0 a.f1) true :=
    Ev.step (f := fun k => (marginalialaw11_alive.f k).bind fun t => some t) (fun k => by simp only [marginalialaw11_PolicyNever.j0]; rfl) (Ev.bind (f := fun _ t => some t) alive_ev (Ev.now _))
  refine Ev.way (small_ev x0.f0 x0.f1 x0.f2 x0.f3 x0.f4) (fun h => ?_) (fun h => hp)
  have hs := small_is h
  by_cases h1 : (n.size : Int) > 1000
  · exact Ev.congr (fun k => if_pos h1) hp
  refine Ev.congr (fun k => if_neg h1) ?_
  by_cases h2 : (a.f0.size : Int) > 1000
  · exact Ev.congr (fun k => if_pos h2) hp
  refine Ev.congr (fun k => if_neg h2) ?_
  by_cases h3 : (a.f1.size : Int) > 1000
  · rw [decide_eq_true h3]; exact hp
  rw [decide_eq_false h3]
  have hav : a.f1.size ≤ 1000000 := by omega
  obtain ⟨l, l1, l2, l3, d⟩ := x0
  obtain ⟨an, av⟩ := a
  simp only at hs hav ⊢
  have hj1 := never_j1 l l1 l2 l3 d an av hs n hav
  have hEA : attrS l l1 l2 l3 d n an av = true → elemS l l1 l2 l3 d n = true := attr_elem
  have hnev : elemS l l1 l2 l3 d n = true → neverS n = false := elem_never
  obtain ⟨A, hA⟩ : ∃ A, A = attrS l l1 l2 l3 d n an av := ⟨_, rfl⟩
  obtain ⟨E, hE⟩ : ∃ E, E = elemS l l1 l2 l3 d n := ⟨_, rfl⟩
  have hAe := attr_ev l l1 l2 l3 d hs n an av hav
  have hEe := elem_ev l l1 l2 l3 d hs n
  rw [← hA] at hj1 hEA hAe
  rw [← hE] at hEA hnev hEe
  refine Ev.step (f := fun k => ((policy_Attr.f k l l1 l2 l3 d n an av).bind fun t523 => ((policy_Element.f k l l1 l2 l3 d n).bind fun t524 => (if t524 = true then ((kind_Is.f k 2 n).bind fun t525 => (if t525 = true then (marginalialaw11_PolicyNever.j1 k t523 true l l1 l2 l3 d an av) else (if n.toList = ([115, 118, 103] : List UInt8) then (marginalialaw11_PolicyNever.j1 k t523 true l l1 l2 l3 d an av) else (if n.toList = ([109, 97, 116, 104] : List UInt8) then (marginalialaw11_PolicyNever.j1 k t523 true l l1 l2 l3 d an av) else (if n.toList = ([112, 108, 97, 105, 110, 116, 101, 120, 116] : List UInt8) then (marginalialaw11_PolicyNever.j1 k t523 true l l1 l2 l3 d an av) else (if t523 = true then ((policy_Element.f k l l1 l2 l3 d n).bind fun t526 => (marginalialaw11_PolicyNever.j1 k t523 (!t526) l l1 l2 l3 d an av)) else (marginalialaw11_PolicyNever.j1 k t523 false l l1 l2 l3 d an av))))))) else (if t523 = true then ((policy_Element.f k l l1 l2 l3 d n).bind fun t527 => (marginalialaw11_PolicyNever.j1 k t523 (!t527) l l1 l2 l3 d an av)) else (marginalialaw11_PolicyNever.j1 k t523 false l l1 l2 l3 d an av)))))) (fun k => by simp only [marginalialaw11_PolicyNever.j0]; rfl) ?_
  refine Ev.bind (f := fun k t523 => ((policy_Element.f k l l1 l2 l3 d n).bind fun t524 => (if t524 = true then ((kind_Is.f k 2 n).bind fun t525 => (if t525 = true then (marginalialaw11_PolicyNever.j1 k t523 true l l1 l2 l3 d an av) else (if n.toList = ([115, 118, 103] : List UInt8) then (marginalialaw11_PolicyNever.j1 k t523 true l l1 l2 l3 d an av) else (if n.toList = ([109, 97, 116, 104] : List UInt8) then (marginalialaw11_PolicyNever.j1 k t523 true l l1 l2 l3 d an av) else (if n.toList = ([112, 108, 97, 105, 110, 116, 101, 120, 116] : List UInt8) then (marginalialaw11_PolicyNever.j1 k t523 true l l1 l2 l3 d an av) else (if t523 = true then ((policy_Element.f k l l1 l2 l3 d n).bind fun t526 => (marginalialaw11_PolicyNever.j1 k t523 (!t526) l l1 l2 l3 d an av)) else (marginalialaw11_PolicyNever.j1 k t523 false l l1 l2 l3 d an av))))))) else (if t523 = true then ((policy_Element.f k l l1 l2 l3 d n).bind fun t527 => (marginalialaw11_PolicyNever.j1 k t523 (!t527) l l1 l2 l3 d an av)) else (marginalialaw11_PolicyNever.j1 k t523 false l l1 l2 l3 d an av))))) hAe ?_
  refine Ev.way hEe (fun h => ?_) (fun h => ?_)
  · have hv := hnev h
    unfold neverS at hv
    simp only [Bool.or_eq_false_iff] at hv
    obtain ⟨hh, h2k, _⟩ := hv
    rw [bytes_data]
    refine Ev.way (is_ev 2 n) (fun h => by rw [h] at h2k; exact absurd h2k (by decide)) (fun _ => ?_)
    have hno : ∀ L ∈ hardN, n.data.toList ≠ L := fun L hL he => by
      rw [he] at hh
      have := List.contains_iff_mem.mpr hL
      rw [this] at hh
      exact absurd hh (by decide)
    refine Ev.congr (fun k => by rw [if_neg (hno _ (by decide)), if_neg (hno _ (by decide)), if_neg (hno _ (by decide))]) ?_
    cases A with
    | false => exact Ev.congr (fun k => if_neg (by decide)) hj1
    | true =>
      refine Ev.congr (fun k => if_pos rfl) ?_
      refine Ev.bind (f := fun k t526 => marginalialaw11_PolicyNever.j1 k true (!t526) l l1 l2 l3 d an av) hEe ?_
      rw [h]
      exact hj1
  · cases A with
    | false => exact Ev.congr (fun k => if_neg (by decide)) hj1
    | true => exact absurd (hEA rfl) (by rw [h]; decide)
end Go.Proofs.YtnbghhddmlohoaaDoor.Pure

end
