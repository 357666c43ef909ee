/- The statement SchemeLetters: a scheme that is told begins with a small letter and has no other bytes than small letters, figures, +, - and .; a link that begins with it, a colon, and anything has it (beyond 200 bytes: the live question alone).
   No condition: every link, every rest. -/
import Derived.Test.YthomonglhieifaaPAllx0
import Derived.Test.YthomonglhieifaaPAllx11
import Derived.Test.YthomonglhieifaaPAllx6
import Derived.Test.YthomonglhieifaaPAllx7
import Derived.Test.YthomonglhieifaaSchMore
import Derived.Test.YthomonglhieifaaSchRef
namespace Go.Proofs.Ythomonglhieifaa.Pure
open Go.RowKit Go.Proofs.Ythomonglhieifaa.PAll Go.Proofs.YthomonglhieifaaW.PrintWords Go.Proofs.YthomonglhieifaaW.PrintLast
theorem ok_num (c : UInt8) (h : sOk c = true) : (97 ≤ (c.toNat : Int) ∧ (c.toNat : Int) ≤ 122) ∨ (48 ≤ (c.toNat : Int) ∧ (c.toNat : Int) ≤ 57) ∨ (c.toNat : Int) = 43 ∨ (c.toNat : Int) = 45 ∨ (c.toNat : Int) = 46 := by
  revert h; revert c; apply u8_all; decide +kernel
theorem small_num (c : UInt8) (h : sSmall c = true) : 97 ≤ (c.toNat : Int) ∧ (c.toNat : Int) ≤ 122 := by
  revert h; revert c; apply u8_all; decide +kernel
theorem letters_l0 (x0 x1 x5 : ByteArray) (hs : x5.size ≤ 1000000) (hok : x5.data.toList.all sOk = true) (hh : ∀ c, x5.data.toList[0]? = some c → sSmall c = true)
    (hT : Ev (fun k => marginalialaw10_SchemeLetters.l0 k x0 x1 x5 ((x5.size : Nat) : Int)) true) : ∀ (d i : Nat), i + d = x5.size → Ev (fun k => marginalialaw10_SchemeLetters.l0 k x0 x1 x5 (i : Int)) true := by
  intro d
  induction d with
  | zero =>
    intro i hi
    obtain rfl : i = x5.size := by omega
    exact hT
  | succ d ih =>
    intro i hi
    obtain ⟨c, hc, hd⟩ := drop_get x5 i (by omega)
    have hb := bt_get x5 i c hc
    have ho := ok_num c (List.all_eq_true.1 hok c (List.mem_of_getElem? hc))
    refine Ev.step (f := fun k => marginalialaw10_SchemeLetters.l0 k x0 x1 x5 ((i + 1 : Nat) : Int)) (fun k => ?_) (ih (i + 1) (by omega))
    simp only [marginalialaw10_SchemeLetters.l0]
    rw [if_pos (by omega), if_pos (by omega), hb, wrap_next (by omega)]
    rcases ho with ho | ho
    · rw [if_pos (by omega), if_pos (by omega)]
    · have hi0 : ¬ (i : Int) = 0 := by
        intro e
        obtain rfl : i = 0 := by omega
        have := small_num c (hh c hc)
        omega
      rw [if_neg (by omega), if_neg hi0]
      rcases ho with ho | ho | ho | ho
      · rw [if_neg (by omega), if_neg (by omega)]
      · rw [if_pos (by omega), if_pos ho]
      · rw [if_pos (by omega), if_neg (by omega), if_pos ho]
      · rw [if_pos (by omega), if_neg (by omega), if_neg (by omega), if_pos ho]
theorem letters_tail (x0 x1 : ByteArray) (c : UInt8) (r : List UInt8) (h0 : x0.size ≤ 200) (h1 : x1.size ≤ 200) (ho : ofS x0 = some (c :: r)) (hl : (c :: r).length ≤ 200) (hc : sSmall c = true) (hok : (c :: r).all sOk = true) :
    Ev (fun k => marginalialaw10_SchemeLetters.l0 k x0 x1 ⟨(c :: r).toArray⟩ (((⟨(c :: r).toArray⟩ : ByteArray).size : Nat) : Int)) true := by
  have hz : (⟨(c :: r).toArray⟩ : ByteArray).size = (c :: r).length := rfl
  have hD : (⟨(c :: r).toArray⟩ : ByteArray).data.toList = c :: r := rfl
  generalize hx : (⟨(c :: r).toArray⟩ : ByteArray) = x5 at hz hD
  have hz1 : (x5 ++ (⟨#[58]⟩ : ByteArray)).size = x5.size + 1 := by rw [ByteArray.size_append]; rfl
  have hz2 : ((x5 ++ (⟨#[58]⟩ : ByteArray)) ++ x1).size = x5.size + 1 + x1.size := by rw [ByteArray.size_append, hz1]
  have hag : ofS ((x5 ++ (⟨#[58]⟩ : ByteArray)) ++ x1) = some (c :: r) := by
    unfold ofS
    rw [append_data', append_data', hD]
    have := schL_again c r x1.data.toList hc hok
    rw [show (c :: r) ++ (⟨#[58]⟩ : ByteArray).data.toList ++ x1.data.toList = (c :: r) ++ 58 :: x1.data.toList by simp]
    exact this
  have hof := of_ev ((x5 ++ (⟨#[58]⟩ : ByteArray)) ++ x1) (by omega)
  rw [hag] at hof
  have hs1 : safeS x0 [x5] = true := by
    unfold safeS
    rw [ho]
    simp [hD]
  have hs2 : safeS x0 [x5 ++ (⟨#[120]⟩ : ByteArray)] = false := by
    unfold safeS
    rw [ho]
    simp only [List.any_cons, List.any_nil, Bool.or_false, append_data', hD]
    rw [beq_eq_false_iff_ne]
    intro e
    have := congrArg List.length e
    simp at this
  refine Ev.step (f := fun k => (scheme_Of.f k ((x5 ++ (⟨#[58]⟩ : ByteArray)) ++ x1)).bind fun bt168 => ((marginalialaw10_alive.f k).bind fun t170 => (if t170 = true then (if x5.toList = ([] : List UInt8) then (some false) else (if bt168.2 = true then (if x5.toList = bt168.1.toList then ((scheme_Safe.f k x0 (([x5] : List ByteArray))).bind fun t174 => (if t174 = true then ((scheme_Safe.f k x0 (([x5 ++ (⟨#[120]⟩ : ByteArray)] : List ByteArray))).bind fun t178 => (some (!t178))) else (some false))) else (some false)) else (some false))) else (some false)))) (fun k => ?_) ?_
  · simp only [marginalialaw10_SchemeLetters.l0]
    rw [if_neg (by omega), if_pos (by omega), if_pos (by omega)]
  · refine Ev.bind hof ?_
    refine Ev.bind alive_ev' ?_
    refine Ev.congr (fun _ => if_pos rfl) ?_
    refine Ev.congr (fun _ => if_neg (by rw [bytes_data, hD]; simp)) ?_
    refine Ev.congr (fun _ => if_pos rfl) ?_
    refine Ev.congr (fun _ => if_pos (by rw [bytes_data, bytes_data, hD]; rfl)) ?_
    have e1 := safe_ev x0 [x5] (by omega) (by simp)
    rw [hs1] at e1
    refine Ev.bind e1 ?_
    refine Ev.congr (fun _ => if_pos rfl) ?_
    have e2 := safe_ev x0 [x5 ++ (⟨#[120]⟩ : ByteArray)] (by omega) (by simp)
    rw [hs2] at e2
    exact Ev.bind e2 (Ev.now _)
theorem SchemeLetters : marginalialaw10_SchemeLetters.Pure := by
  intro a0 a1 _ _
  have H : Ev (fun k => marginalialaw10_SchemeLetters.f k a0 a1) true := by
    have hp : Ev (fun k => marginalialaw10_SchemeLetters.j0 k a0 a1 true) true := by
      refine Ev.step (f := fun k => (marginalialaw10_alive.f k).bind fun t => some t) (fun k => ?_) (Ev.bind (f := fun _ t => some t) alive_ev' (Ev.now _))
      simp only [marginalialaw10_SchemeLetters.j0]
      rw [if_pos trivial]
    unfold marginalialaw10_SchemeLetters.f
    by_cases c1 : (a0.size : Int) > 200
    · exact Ev.congr (fun _ => if_pos c1) hp
    refine Ev.congr (fun _ => if_neg c1) ?_
    by_cases c2 : (a1.size : Int) > 200
    · rw [decide_eq_true c2]; exact hp
    rw [decide_eq_false c2]
    refine Ev.step (f := fun k => (scheme_Of.f k a0).bind fun bt165 => (if bt165.2 = true then (marginalialaw10_SchemeLetters.l0 k a0 a1 bt165.1 0) else ((marginalialaw10_alive.f k).bind fun t167 => (if t167 = true then (some (bt165.1.toList == ([] : List UInt8))) else (some false))))) (fun k => ?_) ?_
    · simp only [marginalialaw10_SchemeLetters.j0]
      rw [if_neg (by simp)]
    · refine Ev.bind (of_ev a0 (by omega)) ?_
      cases ho : ofS a0 with
      | none =>
        refine Ev.congr (fun _ => if_neg (by simp [ofR])) ?_
        refine Ev.bind alive_ev' ?_
        exact ⟨0, fun _ _ => by rw [if_pos rfl, bytes_data]; rfl⟩
      | some t =>
        refine Ev.congr (fun _ => if_pos rfl) ?_
        obtain ⟨c, r, rfl, h1, h2, h3⟩ := schL_told ho
        have h4 := tidyL_len a0.data.toList
        rw [data_len] at h4
        refine letters_l0 a0 a1 ⟨(c :: r).toArray⟩ ?_ h2 ?_ (letters_tail a0 a1 c r (by omega) (by omega) ho (by omega) h1 h2) (⟨(c :: r).toArray⟩ : ByteArray).size 0 (by omega)
        · show (c :: r).length ≤ _
          omega
        · intro d hd
          obtain rfl : c = d := by simpa using hd
          exact h1
  exact H.rounds
end Go.Proofs.Ythomonglhieifaa.Pure
