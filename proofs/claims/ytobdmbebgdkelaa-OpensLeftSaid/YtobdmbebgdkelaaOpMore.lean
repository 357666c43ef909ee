import Derived.Test.YtobdmbebgdkelaaPAllx0
import Derived.Test.YtobdmbebgdkelaaOpSpec
namespace Go.Proofs.Ytobdmbebgdkelaa.Pure
open Go.RowKit Go.Proofs.Ytobdmbebgdkelaa.PAll Go.Proofs.YtobdmbebgdkelaaW.PrintWords Go.Proofs.YtobdmbebgdkelaaW.PrintLast
theorem lastN_is (p : S35 → Bool) (l : List S35) : ∀ n : Nat, 0 ≤ lastN p l n → p (rd_T35 l (lastN p l n)) = true
  | 0 => fun h => by simp [lastN] at h
  | n + 1 => fun h => by
    unfold lastN at h ⊢
    by_cases hp : p (rd_T35 l (n : Int)) = true
    · rw [if_pos hp]; exact hp
    · rw [if_neg hp] at h ⊢; exact lastN_is p l n h
theorem lastN_none (p : S35 → Bool) (l : List S35) : ∀ (n i : Nat), lastN p l n < (i : Int) → i < n → p (rd_T35 l (i : Int)) = false
  | 0 => fun i _ h => by omega
  | n + 1 => fun i h1 h2 => by
    unfold lastN at h1
    by_cases hp : p (rd_T35 l (n : Int)) = true
    · rw [if_pos hp] at h1; omega
    · rw [if_neg hp] at h1
      by_cases hi : i = n
      · subst hi; exact Bool.eq_false_iff.mpr hp
      · exact lastN_none p l n i h1 (by omega)
theorem lastN_some (p : S35 → Bool) (l : List S35) (n i : Nat) (h : i < n) (hp : p (rd_T35 l (i : Int)) = true) : 0 ≤ lastN p l n := by
  have := lastN_none p l n i
  by_cases h0 : 0 ≤ lastN p l n
  · exact h0
  · have := this (by omega) h
    rw [hp] at this
    exact absurd this (by decide)
theorem hasN_cut (p e : S35 → Bool) (l : List S35) : ∀ n : Nat, hasN p e l n = true → 0 ≤ lastN p l n
  | 0 => fun h => by simp [hasN] at h
  | n + 1 => fun h => by
    unfold hasN at h
    unfold lastN
    by_cases hp : p (rd_T35 l (n : Int)) = true
    · rw [if_pos hp]; omega
    · rw [if_neg hp] at h ⊢
      by_cases he : e (rd_T35 l (n : Int)) = true
      · rw [if_pos he] at h; exact absurd h (by decide)
      · rw [if_neg he] at h; exact hasN_cut p e l n h
theorem hasN_wider (p e e' : S35 → Bool) (h : ∀ x, e x = true → e' x = true) (l : List S35) : ∀ n : Nat, hasN p e' l n = true → hasN p e l n = true
  | 0 => fun h => by simp [hasN] at h
  | n + 1 => fun hh => by
    unfold hasN at hh ⊢
    by_cases hp : p (rd_T35 l (n : Int)) = true
    · rw [if_pos hp]
    · rw [if_neg hp] at hh ⊢
      by_cases he : e' (rd_T35 l (n : Int)) = true
      · rw [if_pos he] at hh; exact absurd hh (by decide)
      · rw [if_neg he] at hh
        rw [if_neg (fun x => he (h _ x))]
        exact hasN_wider p e e' h l n hh
theorem endB_one (x : S35) (sc : Int) (h4 : sc ≠ 4) (h : endB 1 x = true) : endB sc x = true := by
  unfold endB endsB at h ⊢
  by_cases h0 : x.f1 = 0
  · rw [if_pos h0] at h ⊢
    by_cases ha : w_ends.contains x.f2.data.toList = true
    · rw [if_pos ha]
    · rw [if_neg ha] at h ⊢
      by_cases hd : w_tab.contains x.f2.data.toList = true
      · rw [if_pos hd]; simp [h4]
      · rw [if_neg hd] at h
        exfalso
        by_cases hl : w_lst.contains x.f2.data.toList = true
        · rw [if_pos hl] at h; exact absurd h (by decide)
        · rw [if_neg hl] at h
          split at h
          · exact absurd h (by decide)
          · exact absurd h (by decide)
  · rw [if_neg h0] at h ⊢
    simp only [Bool.and_eq_true] at h ⊢
    exact ⟨by simp [h4], h.2⟩
end Go.Proofs.Ytobdmbebgdkelaa.Pure
