import Derived.Lib.Replace
import Derived.Lib.RuneBytes
import GoSem.Core.Utf8
set_option linter.unusedVariables false
set_option linter.unusedSimpArgs false
namespace Go.Proofs.YtckajljkdlejoaaDoor.PAll
/-- The first byte of a sequence: how many bytes it has, and from where to where the second one goes. -/
def inLead (c : UInt8) : Nat × Nat × Nat :=
  if 194 ≤ c.toNat ∧ c.toNat ≤ 223 then (2, 128, 191)
  else if c.toNat = 224 then (3, 160, 191)
  else if c.toNat = 237 then (3, 128, 159)
  else if 225 ≤ c.toNat ∧ c.toNat ≤ 239 then (3, 128, 191)
  else if c.toNat = 240 then (4, 144, 191)
  else if 241 ≤ c.toNat ∧ c.toNat ≤ 243 then (4, 128, 191)
  else if c.toNat = 244 then (4, 128, 143)
  else (1, 0, 0)
def inIn (l : List UInt8) (k lo hi : Nat) : Bool := match l[k]? with | some c => decide (lo ≤ c.toNat ∧ c.toNat ≤ hi) | none => false
/-- The first piece of a text: how many bytes, and whether it is good. -/
def inPc (l : List UInt8) : Nat × Bool := match l with
  | [] => (1, false)
  | c :: _ =>
    if (inLead c).1 = 1 then (1, decide (c.toNat < 128))
    else if inIn l 1 (inLead c).2.1 (inLead c).2.2 = false then (1, false)
    else if (inLead c).1 = 2 then (2, true)
    else if inIn l 2 128 191 = false then (2, false)
    else if (inLead c).1 = 3 then (3, true)
    else if inIn l 3 128 191 = false then (3, false)
    else (4, true)
theorem inIn_lt {l : List UInt8} {k lo hi : Nat} (h : inIn l k lo hi = true) : k < l.length := by
  unfold inIn at h
  split at h
  · next c hc => exact (List.getElem?_eq_some_iff.1 hc).1
  · exact absurd h (by decide)
theorem inIn_some {l : List UInt8} {k lo hi : Nat} (h : inIn l k lo hi = true) : ∃ c, l[k]? = some c ∧ lo ≤ c.toNat ∧ c.toNat ≤ hi := by
  unfold inIn at h
  split at h
  · next c hc => exact ⟨c, hc, by simpa using h⟩
  · exact absurd h (by decide)
theorem inLead_cases (c : UInt8) : (inLead c).1 = 1 ∨ (inLead c).1 = 2 ∨ (inLead c).1 = 3 ∨ (inLead c).1 = 4 := by
  unfold inLead
  repeat (split; · simp)
  simp
theorem inLead_low (c : UInt8) (h : (inLead c).1 ≠ 1) : 128 ≤ (inLead c).2.1 ∧ 194 ≤ c.toNat := by
  unfold inLead at h ⊢
  by_cases a1 : 194 ≤ c.toNat ∧ c.toNat ≤ 223
  · rw [if_pos a1]; exact ⟨Nat.le_refl _, a1.1⟩
  rw [if_neg a1] at h ⊢
  by_cases a2 : c.toNat = 224
  · rw [if_pos a2]; exact ⟨by decide, by omega⟩
  rw [if_neg a2] at h ⊢
  by_cases a3 : c.toNat = 237
  · rw [if_pos a3]; exact ⟨by decide, by omega⟩
  rw [if_neg a3] at h ⊢
  by_cases a4 : 225 ≤ c.toNat ∧ c.toNat ≤ 239
  · rw [if_pos a4]; exact ⟨by decide, by omega⟩
  rw [if_neg a4] at h ⊢
  by_cases a5 : c.toNat = 240
  · rw [if_pos a5]; exact ⟨by decide, by omega⟩
  rw [if_neg a5] at h ⊢
  by_cases a6 : 241 ≤ c.toNat ∧ c.toNat ≤ 243
  · rw [if_pos a6]; exact ⟨by decide, by omega⟩
  rw [if_neg a6] at h ⊢
  by_cases a7 : c.toNat = 244
  · rw [if_pos a7]; exact ⟨by decide, by omega⟩
  rw [if_neg a7] at h
  exact absurd rfl h
/-- The ways of a first piece. -/
theorem inPc_cases (c : UInt8) (r : List UInt8) :
    ((inLead c).1 = 1 ∧ inPc (c :: r) = (1, decide (c.toNat < 128))) ∨
    ((inLead c).1 ≠ 1 ∧ inIn (c :: r) 1 (inLead c).2.1 (inLead c).2.2 = false ∧ inPc (c :: r) = (1, false)) ∨
    ((inLead c).1 = 2 ∧ inIn (c :: r) 1 (inLead c).2.1 (inLead c).2.2 = true ∧ inPc (c :: r) = (2, true)) ∨
    (3 ≤ (inLead c).1 ∧ inIn (c :: r) 1 (inLead c).2.1 (inLead c).2.2 = true ∧ inIn (c :: r) 2 128 191 = false ∧ inPc (c :: r) = (2, false)) ∨
    ((inLead c).1 = 3 ∧ inIn (c :: r) 1 (inLead c).2.1 (inLead c).2.2 = true ∧ inIn (c :: r) 2 128 191 = true ∧ inPc (c :: r) = (3, true)) ∨
    ((inLead c).1 = 4 ∧ inIn (c :: r) 1 (inLead c).2.1 (inLead c).2.2 = true ∧ inIn (c :: r) 2 128 191 = true ∧ inIn (c :: r) 3 128 191 = false ∧ inPc (c :: r) = (3, false)) ∨
    ((inLead c).1 = 4 ∧ inIn (c :: r) 1 (inLead c).2.1 (inLead c).2.2 = true ∧ inIn (c :: r) 2 128 191 = true ∧ inIn (c :: r) 3 128 191 = true ∧ inPc (c :: r) = (4, true)) := by
  have hl := inLead_cases c
  have e : inPc (c :: r) = if (inLead c).1 = 1 then (1, decide (c.toNat < 128))
    else if inIn (c :: r) 1 (inLead c).2.1 (inLead c).2.2 = false then (1, false)
    else if (inLead c).1 = 2 then (2, true)
    else if inIn (c :: r) 2 128 191 = false then (2, false)
    else if (inLead c).1 = 3 then (3, true)
    else if inIn (c :: r) 3 128 191 = false then (3, false)
    else (4, true) := rfl
  rw [e]
  generalize inIn (c :: r) 1 (inLead c).2.1 (inLead c).2.2 = i1
  generalize inIn (c :: r) 2 128 191 = i2
  generalize inIn (c :: r) 3 128 191 = i3
  generalize decide (c.toNat < 128) = d
  generalize (inLead c).1 = n at hl ⊢
  rcases hl with rfl | rfl | rfl | rfl <;> cases i1 <;> cases i2 <;> cases i3 <;> simp
theorem inPc_pos (l : List UInt8) : 1 ≤ (inPc l).1 ∧ (inPc l).1 ≤ 4 := by
  cases l with
  | nil => simp [inPc]
  | cons c r => rcases inPc_cases c r with ⟨_, e⟩ | ⟨_, _, e⟩ | ⟨_, _, e⟩ | ⟨_, _, _, e⟩ | ⟨_, _, _, e⟩ | ⟨_, _, _, _, e⟩ | ⟨_, _, _, _, e⟩ <;> rw [e] <;> simp
theorem inPc_len (l : List UInt8) (h : l ≠ []) : (inPc l).1 ≤ l.length := by
  cases l with
  | nil => exact absurd rfl h
  | cons c r =>
    rcases inPc_cases c r with ⟨_, e⟩ | ⟨_, _, e⟩ | ⟨_, h1, e⟩ | ⟨_, h1, _, e⟩ | ⟨_, _, h1, e⟩ | ⟨_, _, h1, _, e⟩ | ⟨_, _, _, h1, e⟩ <;> rw [e]
    · simp
    · simp
    all_goals (have := inIn_lt h1; simp at *; omega)
theorem inIn_congr {l l' : List UInt8} {k lo hi : Nat} (h : l'[k]? = l[k]?) : inIn l' k lo hi = inIn l k lo hi := by unfold inIn; rw [h]
/-- A good piece is one whatever stands behind it. -/
theorem inPc_stable {l l' : List UInt8} {n : Nat} (h : inPc l = (n, true)) (he : ∀ k, k < n → l'[k]? = l[k]?) : inPc l' = (n, true) := by
  cases l with
  | nil => simp [inPc] at h
  | cons c r =>
    have hn : 1 ≤ n := by have := (inPc_pos (c :: r)).1; rw [h] at this; exact this
    have h0 : l'[0]? = some c := by rw [he 0 (by omega)]; rfl
    cases l' with
    | nil => simp at h0
    | cons c' r' =>
      obtain rfl : c' = c := by simpa using h0
      have e1 : 1 < n → inIn (c' :: r') 1 (inLead c').2.1 (inLead c').2.2 = inIn (c' :: r) 1 (inLead c').2.1 (inLead c').2.2 := fun hk => inIn_congr (he 1 hk)
      have e2 : 2 < n → inIn (c' :: r') 2 128 191 = inIn (c' :: r) 2 128 191 := fun hk => inIn_congr (he 2 hk)
      have e3 : 3 < n → inIn (c' :: r') 3 128 191 = inIn (c' :: r) 3 128 191 := fun hk => inIn_congr (he 3 hk)
      rcases inPc_cases c' r with ⟨a, e⟩ | ⟨a, h1, e⟩ | ⟨a, h1, e⟩ | ⟨a, h1, h2, e⟩ | ⟨a, h1, h2, e⟩ | ⟨a, h1, h2, h3, e⟩ | ⟨a, h1, h2, h3, e⟩ <;> rw [e] at h <;> (try (simp at h; done)) <;> (simp only [Prod.mk.injEq] at h; obtain ⟨rfl, hg⟩ := h)
      · rcases inPc_cases c' r' with ⟨_, e'⟩ | ⟨a', _⟩ | ⟨a', _⟩ | ⟨a', _⟩ | ⟨a', _⟩ | ⟨a', _⟩ | ⟨a', _⟩
        · rw [e', hg]
        all_goals omega
      · have f1 := e1 (by omega); rw [h1] at f1
        rcases inPc_cases c' r' with ⟨a', _⟩ | ⟨_, g1, _⟩ | ⟨_, _, e'⟩ | ⟨a', _⟩ | ⟨a', _⟩ | ⟨a', _⟩ | ⟨a', _⟩ <;> first | omega | exact e' | (rw [f1] at g1; exact absurd g1 (by decide))
      · have f1 := e1 (by omega); rw [h1] at f1
        have f2 := e2 (by omega); rw [h2] at f2
        rcases inPc_cases c' r' with ⟨a', _⟩ | ⟨_, g1, _⟩ | ⟨a', _⟩ | ⟨_, _, g2, _⟩ | ⟨_, _, _, e'⟩ | ⟨a', _⟩ | ⟨a', _⟩ <;> first | omega | exact e' | (rw [f1] at g1; exact absurd g1 (by decide)) | (rw [f2] at g2; exact absurd g2 (by decide))
      · have f1 := e1 (by omega); rw [h1] at f1
        have f2 := e2 (by omega); rw [h2] at f2
        have f3 := e3 (by omega); rw [h3] at f3
        rcases inPc_cases c' r' with ⟨a', _⟩ | ⟨_, g1, _⟩ | ⟨a', _⟩ | ⟨_, _, g2, _⟩ | ⟨a', _⟩ | ⟨_, _, _, g3, _⟩ | ⟨_, _, _, _, e'⟩ <;> first | omega | exact e' | (rw [f1] at g1; exact absurd g1 (by decide)) | (rw [f2] at g2; exact absurd g2 (by decide)) | (rw [f3] at g3; exact absurd g3 (by decide))
theorem inPc_front {l : List UInt8} {n : Nat} (h : inPc l = (n, true)) (x : List UInt8) : inPc (l.take n ++ x) = (n, true) := by
  have hne : l ≠ [] := by rintro rfl; simp [inPc] at h
  have hlen := inPc_len l hne
  rw [h] at hlen
  exact inPc_stable h (fun k hk => by rw [List.getElem?_append_left (by simp; simp at hlen; omega), List.getElem?_take_of_lt hk])
/-- The three bytes of what stands for a bad piece. -/
def inBad : List UInt8 := [239, 191, 189]
theorem inPc_bad (x : List UInt8) : inPc (inBad ++ x) = (3, true) := by
  have h : inPc inBad = (3, true) := by decide
  have := inPc_front h x
  rwa [show inBad.take 3 = inBad from rfl] at this

/-- Bytes as a right text. -/
def inDec (l : List UInt8) : List UInt8 := if h : l = [] then [] else (if (inPc l).2 = true then l.take (inPc l).1 else inBad) ++ inDec (l.drop (inPc l).1)
termination_by l.length
decreasing_by
  have := inPc_pos l
  have : 0 < l.length := List.length_pos_iff.2 h
  simp; omega
def inVal (l : List UInt8) : Bool := if h : l = [] then true else (inPc l).2 && inVal (l.drop (inPc l).1)
termination_by l.length
decreasing_by
  have := inPc_pos l
  have : 0 < l.length := List.length_pos_iff.2 h
  simp; omega
def inCnt (l : List UInt8) : Nat := if h : l = [] then 0 else inCnt (l.drop (inPc l).1) + 1
termination_by l.length
decreasing_by
  have := inPc_pos l
  have : 0 < l.length := List.length_pos_iff.2 h
  simp; omega
theorem inDec_nil : inDec [] = [] := by rw [inDec]; simp
theorem inVal_nil : inVal [] = true := by rw [inVal]; simp
theorem inCnt_nil : inCnt [] = 0 := by rw [inCnt]; simp
theorem inDec_cons {l : List UInt8} (h : l ≠ []) : inDec l = (if (inPc l).2 = true then l.take (inPc l).1 else inBad) ++ inDec (l.drop (inPc l).1) := by rw [inDec]; simp [h]
theorem inVal_cons {l : List UInt8} (h : l ≠ []) : inVal l = ((inPc l).2 && inVal (l.drop (inPc l).1)) := by rw [inVal]; simp [h]
theorem inCnt_cons {l : List UInt8} (h : l ≠ []) : inCnt l = inCnt (l.drop (inPc l).1) + 1 := by rw [inCnt]; simp [h]
/-- Induction on pieces. -/
theorem in_ind {p : List UInt8 → Prop} (h0 : p []) (h1 : ∀ l, l ≠ [] → p (l.drop (inPc l).1) → p l) (l : List UInt8) : p l := by
  suffices H : ∀ n (l : List UInt8), l.length ≤ n → p l from H l.length l (Nat.le_refl _)
  intro n
  induction n with
  | zero => intro l hl; have : l = [] := List.eq_nil_of_length_eq_zero (by omega); subst this; exact h0
  | succ n ih =>
    intro l hl
    by_cases h : l = []
    · subst h; exact h0
    · refine h1 l h (ih _ ?_)
      have := inPc_pos l
      simp; omega
theorem take_ne {l : List UInt8} {n : Nat} (hl : l ≠ []) (hn : 1 ≤ n) (x : List UInt8) : l.take n ++ x ≠ [] := by
  cases l with
  | nil => exact absurd rfl hl
  | cons c r => cases n with
    | zero => omega
    | succ n => simp
/-- A good piece ahead. -/
theorem in_good {l : List UInt8} {n : Nat} (h : inPc l = (n, true)) (x : List UInt8) : l ≠ [] ∧ l.take n ++ x ≠ [] ∧ inPc (l.take n ++ x) = (n, true) ∧ (l.take n ++ x).take n = l.take n ∧ (l.take n ++ x).drop n = x := by
  have hl : l ≠ [] := by rintro rfl; simp [inPc] at h
  have h1 := (inPc_pos l).1; have h2 := inPc_len l hl
  rw [h] at h1 h2
  have hlen : (l.take n).length = n := by rw [List.length_take]; exact Nat.min_eq_left h2
  refine ⟨hl, take_ne hl h1 x, inPc_front h x, ?_, ?_⟩
  · rw [List.take_append_of_le_length (by omega), List.take_of_length_le (by omega)]
  · rw [List.drop_append_of_le_length (by omega), List.drop_of_length_le (by omega), List.nil_append]
theorem inVal_good {l : List UInt8} {n : Nat} (h : inPc l = (n, true)) (x : List UInt8) : inVal (l.take n ++ x) = inVal x := by
  obtain ⟨_, a, b, _, d⟩ := in_good h x
  rw [inVal_cons a, b, d, Bool.true_and]
theorem inCnt_good {l : List UInt8} {n : Nat} (h : inPc l = (n, true)) (x : List UInt8) : inCnt (l.take n ++ x) = inCnt x + 1 := by
  obtain ⟨_, a, b, _, d⟩ := in_good h x
  rw [inCnt_cons a, b, d]
theorem inDec_good {l : List UInt8} {n : Nat} (h : inPc l = (n, true)) (x : List UInt8) : inDec (l.take n ++ x) = l.take n ++ inDec x := by
  obtain ⟨_, a, b, c, d⟩ := in_good h x
  rw [inDec_cons a, b, c, d]
  simp
theorem inBad_good (x : List UInt8) : inVal (inBad ++ x) = inVal x ∧ inCnt (inBad ++ x) = inCnt x + 1 ∧ inDec (inBad ++ x) = inBad ++ inDec x := by
  have h : inPc inBad = (3, true) := by decide
  have e : inBad.take 3 = inBad := rfl
  refine ⟨?_, ?_, ?_⟩
  · have := inVal_good h x; rwa [e] at this
  · have := inCnt_good h x; rwa [e] at this
  · have := inDec_good h x; rwa [e] at this
theorem inPc_eta (l : List UInt8) (h : (inPc l).2 = true) : inPc l = ((inPc l).1, true) := by rw [← h]
/-- WHAT IS DECODED IS RIGHT, and has as many pieces. -/
theorem inVal_dec (l : List UInt8) : inVal (inDec l) = true ∧ inCnt (inDec l) = inCnt l := by
  induction l using in_ind with
  | h0 => simp [inDec_nil, inVal_nil]
  | h1 l hl ih =>
    rw [inDec_cons hl, inCnt_cons hl]
    split
    · next h => exact ⟨(inVal_good (inPc_eta l h) _).trans ih.1, (inCnt_good (inPc_eta l h) _).trans (by rw [ih.2])⟩
    · exact ⟨(inBad_good _).1.trans ih.1, (inBad_good _).2.1.trans (by rw [ih.2])⟩
theorem inDec_val (l : List UInt8) (h : inVal l = true) : inDec l = l := by
  induction l using in_ind with
  | h0 => exact inDec_nil
  | h1 l hl ih =>
    rw [inVal_cons hl, Bool.and_eq_true] at h
    rw [inDec_cons hl, if_pos h.1, ih h.2, List.take_append_drop]
theorem inDec_iff (l : List UInt8) : inDec l = l ↔ inVal l = true := ⟨fun h => by rw [← h]; exact (inVal_dec l).1, inDec_val l⟩
theorem inDec_append (a b : List UInt8) (h : inVal a = true) : inDec (a ++ b) = a ++ inDec b := by
  induction a using in_ind with
  | h0 => rfl
  | h1 l hl ih =>
    rw [inVal_cons hl, Bool.and_eq_true] at h
    have := inDec_good (inPc_eta l h.1) (l.drop (inPc l).1 ++ b)
    rw [← List.append_assoc, List.take_append_drop] at this
    rw [this, ih h.2, ← List.append_assoc, List.take_append_drop]
/-- The bytes of a good piece: one below 128, or none. -/
theorem inPc_bytes {l : List UInt8} {n : Nat} (h : inPc l = (n, true)) : (n = 1 ∧ ∃ c r, l = c :: r ∧ c.toNat < 128) ∨ (2 ≤ n ∧ ∀ c ∈ l.take n, 128 ≤ c.toNat) := by
  cases l with
  | nil => simp [inPc] at h
  | cons c r =>
    have hlow := inLead_low c
    have mem : ∀ (c' : UInt8) (m : Nat), c' ∈ (c :: r).take m → ∃ k, k < m ∧ (c :: r)[k]? = some c' := by
      intro c' m hc
      obtain ⟨k, hk⟩ := List.mem_iff_getElem?.1 hc
      have hlt : k < ((c :: r).take m).length := (List.getElem?_eq_some_iff.1 hk).1
      have : k < m := by rw [List.length_take] at hlt; omega
      exact ⟨k, this, by rw [← hk, List.getElem?_take_of_lt this]⟩
    rcases inPc_cases c r with ⟨a, e⟩ | ⟨a, h1, e⟩ | ⟨a, h1, e⟩ | ⟨a, h1, h2, e⟩ | ⟨a, h1, h2, e⟩ | ⟨a, h1, h2, h3, e⟩ | ⟨a, h1, h2, h3, e⟩ <;> rw [e] at h <;> (try (simp at h; done)) <;> (simp only [Prod.mk.injEq] at h; obtain ⟨rfl, hg⟩ := h)
    · exact .inl ⟨rfl, c, r, rfl, by simpa using hg⟩
    all_goals
      refine .inr ⟨by omega, fun c' hc => ?_⟩
      obtain ⟨k, hk, hc'⟩ := mem c' _ hc
      have hlw := hlow (by omega)
      obtain ⟨d1, g1, g1a, _⟩ := inIn_some h1
      first
        | (obtain ⟨d2, g2, g2a, _⟩ := inIn_some h2; obtain ⟨d3, g3, g3a, _⟩ := inIn_some h3; match k, hk with
            | 0, _ => (simp at hc'; subst hc'; omega)
            | 1, _ => (rw [g1] at hc'; injection hc' with hc'; subst hc'; omega)
            | 2, _ => (rw [g2] at hc'; injection hc' with hc'; subst hc'; omega)
            | 3, _ => (rw [g3] at hc'; injection hc' with hc'; subst hc'; omega))
        | (obtain ⟨d2, g2, g2a, _⟩ := inIn_some h2; match k, hk with
            | 0, _ => (simp at hc'; subst hc'; omega)
            | 1, _ => (rw [g1] at hc'; injection hc' with hc'; subst hc'; omega)
            | 2, _ => (rw [g2] at hc'; injection hc' with hc'; subst hc'; omega))
        | (match k, hk with
            | 0, _ => (simp at hc'; subst hc'; omega)
            | 1, _ => (rw [g1] at hc'; injection hc' with hc'; subst hc'; omega))
/-! ### lines -/
def inLn : List UInt8 → List UInt8
  | [] => []
  | c :: r => if c ≠ 13 then c :: inLn r else if r.head? = some 10 then inLn r else 10 :: inLn r
/-- A carriage return ahead of a line feed goes. -/
def inRn : List UInt8 → List UInt8
  | [] => []
  | c :: r => if c = 13 ∧ r.head? = some 10 then inRn r else c :: inRn r
def inR (c : UInt8) : UInt8 := if c = 13 then 10 else c
theorem inLn_eq (l : List UInt8) : (inRn l).map inR = inLn l := by
  induction l with
  | nil => rfl
  | cons c r ih =>
    rw [inRn, inLn]
    by_cases h : c = 13
    · by_cases h2 : r.head? = some 10
      · rw [if_pos ⟨h, h2⟩, if_neg (by simp [h]), if_pos h2, ih]
      · rw [if_neg (fun e => h2 e.2), if_neg (by simp [h]), if_neg h2, List.map_cons, ih, inR, if_pos h]
    · rw [if_neg (fun e => h e.1), if_pos h, List.map_cons, ih, inR, if_neg h]
section
open Go.Lib
theorem index_skip {c : UInt8} {l old : List UInt8} (h : old.isPrefixOf (c :: l) = false) : Go.Lib.index (c :: l) old = if Go.Lib.index l old == -1 then -1 else Go.Lib.index l old + 1 := by
  rw [Go.Lib.index, h]; simp
theorem replaceK_skip {c : UInt8} {l old new : List UInt8} (h : old.isPrefixOf (c :: l) = false) (k : Nat) : replaceK old new k (c :: l) = c :: replaceK old new k l := by
  cases k with
  | zero => rfl
  | succ k =>
    rw [replaceK, replaceK, index_skip h]
    have hge := index_ge l old
    by_cases hm : Go.Lib.index l old = -1
    · simp [hm]
    · have h1 : (Go.Lib.index l old == -1) = false := by simpa using hm
      have h2 : (Go.Lib.index l old + 1 == -1) = false := by simp; omega
      rw [h1]
      simp only [Bool.false_eq_true, if_false, h2]
      have e : (Go.Lib.index l old + 1).toNat = (Go.Lib.index l old).toNat + 1 := by omega
      rw [e, show (Go.Lib.index l old).toNat + 1 + old.length = ((Go.Lib.index l old).toNat + old.length) + 1 by omega]
      simp
theorem count_skip {c : UInt8} {l old : List UInt8} (ho : old ≠ []) (h : old.isPrefixOf (c :: l) = false) : count (c :: l) old = count l old := by
  have hge := index_ge l old
  by_cases hm : Go.Lib.index l old = -1
  · rw [count_miss hm, count_miss (by rw [index_skip h, hm]; rfl)]
  · obtain ⟨i, hi⟩ : ∃ i : Nat, Go.Lib.index l old = i := ⟨(Go.Lib.index l old).toNat, by omega⟩
    have h2 : Go.Lib.index (c :: l) old = ((i + 1 : Nat) : Int) := by
      rw [index_skip h]
      have h1 : (Go.Lib.index l old == -1) = false := by simpa using hm
      rw [h1, hi]; simp
    rw [count_hit ho hi, count_hit ho h2, show i + 1 + old.length = (i + old.length) + 1 by omega, List.drop_succ_cons]
theorem replaceAll_def {s old new : List UInt8} (h : (old == new) = false) : replaceAll s old new = replaceK old new (count s old) s := by
  unfold replaceAll replace replaceNum
  rw [h]; simp
theorem replaceAll_nil {old new : List UInt8} (ho : old ≠ []) (h : (old == new) = false) : replaceAll [] old new = [] := by
  rw [replaceAll_def h, count_miss]
  · rfl
  · cases old with
    | nil => exact absurd rfl ho
    | cons a b => rfl
theorem replaceAll_skip {c : UInt8} {l old new : List UInt8} (ho : old ≠ []) (hne : (old == new) = false) (h : old.isPrefixOf (c :: l) = false) : replaceAll (c :: l) old new = c :: replaceAll l old new := by
  rw [replaceAll_def hne, replaceAll_def hne, count_skip ho h, replaceK_skip h]
theorem replaceAll_hit {l old new : List UInt8} (ho : old ≠ []) (hne : (old == new) = false) : replaceAll (old ++ l) old new = new ++ replaceAll l old new := by
  have hi : Go.Lib.index (old ++ l) old = ((0 : Nat) : Int) := by
    cases old with
    | nil => exact absurd rfl ho
    | cons a b =>
      rw [List.cons_append, Go.Lib.index]
      have : (a :: b).isPrefixOf (a :: (b ++ l)) = true := by rw [← List.cons_append]; exact List.isPrefixOf_iff_prefix.2 (List.prefix_append _ _)
      rw [this]; rfl
  rw [replaceAll_def hne, replaceAll_def hne, count_hit ho hi, Nat.zero_add, List.drop_left, Nat.add_comm, replaceK_hit old new _ _ 0 hi]
  simp
theorem replace_rn (l : List UInt8) : replaceAll l [13, 10] [10] = inRn l := by
  suffices H : ∀ n (l : List UInt8), l.length ≤ n → replaceAll l [13, 10] [10] = inRn l from H l.length l (Nat.le_refl _)
  intro n
  induction n with
  | zero => intro l hl; obtain rfl : l = [] := List.eq_nil_of_length_eq_zero (by omega); exact replaceAll_nil (by simp) (by decide)
  | succ n ih =>
    intro l hl
    cases l with
    | nil => exact replaceAll_nil (by simp) (by decide)
    | cons c r =>
      by_cases h : c = 13 ∧ r.head? = some 10
      · obtain ⟨rfl, h2⟩ := h
        cases r with
        | nil => simp at h2
        | cons d r' =>
          obtain rfl : d = 10 := by simpa using h2
          have := replaceAll_hit (l := r') (old := [13, 10]) (new := [10]) (by simp) (by decide)
          rw [show (13 : UInt8) :: 10 :: r' = [13, 10] ++ r' from rfl, this, ih r' (by simp at hl; omega)]
          simp [inRn]
      · rw [replaceAll_skip (by simp) (by decide) ?_, ih r (by simp at hl; omega), inRn, if_neg h]
        cases r with
        | nil => simp [List.isPrefixOf]
        | cons d r' =>
          simp only [List.isPrefixOf, Bool.and_true, List.head?_cons, Option.some.injEq] at h ⊢
          rw [Bool.and_eq_false_iff]
          simp only [beq_eq_false_iff_ne]
          rcases Decidable.em (c = 13) with h1 | h1
          · right; intro e; exact h ⟨h1, e.symm⟩
          · left; exact fun e => h1 e.symm
theorem replace_one (l : List UInt8) : replaceAll l [13] [10] = l.map inR := by
  induction l with
  | nil => exact replaceAll_nil (by simp) (by decide)
  | cons c r ih =>
    by_cases h : c = 13
    · subst h
      have := replaceAll_hit (l := r) (old := [13]) (new := [10]) (by simp) (by decide)
      rw [show (13 : UInt8) :: r = [13] ++ r from rfl, this, ih]
      rfl
    · rw [replaceAll_skip (by simp) (by decide) ?_, ih]
      · simp [inR, h]
      · simp only [List.isPrefixOf, Bool.and_true, beq_eq_false_iff_ne]
        exact fun e => h e.symm
theorem replace_lines (l : List UInt8) : replaceAll (replaceAll l [13, 10] [10]) [13] [10] = inLn l := by rw [replace_rn, replace_one, inLn_eq]
end
theorem inLn_high (p r : List UInt8) (h : ∀ c ∈ p, 128 ≤ c.toNat) : inLn (p ++ r) = p ++ inLn r := by
  induction p with
  | nil => rfl
  | cons c p ih =>
    have hc := h c (by simp)
    rw [List.cons_append, inLn, if_pos (by rintro rfl; simp at hc), ih (fun d hd => h d (by simp [hd]))]
    rfl
theorem inPc_ascii (c : UInt8) (r : List UInt8) (h : c.toNat < 128) : inPc (c :: r) = (1, true) := by
  have h1 : (inLead c).1 = 1 := by
    unfold inLead
    repeat (rw [if_neg (by omega)])
  rcases inPc_cases c r with ⟨_, e⟩ | ⟨a, _⟩ | ⟨a, _⟩ | ⟨a, _⟩ | ⟨a, _⟩ | ⟨a, _⟩ | ⟨a, _⟩
  · rw [e, decide_eq_true h]
  all_goals omega
theorem inVal_ascii (c : UInt8) (r : List UInt8) (h : c.toNat < 128) : inVal (c :: r) = inVal r := by
  have := inVal_good (inPc_ascii c r h) r
  simpa using this
/-- The pieces of a right text, one by one. -/
theorem inVal_ind {p : List UInt8 → Prop} (h0 : p []) (h1 : ∀ (c : UInt8) r, c.toNat < 128 → inVal r = true → p r → p (c :: r))
    (h2 : ∀ (l : List UInt8) n, 2 ≤ n → inPc l = (n, true) → (∀ c ∈ l.take n, 128 ≤ c.toNat) → inVal (l.drop n) = true → p (l.drop n) → p (l.take n ++ l.drop n)) (l : List UInt8) (h : inVal l = true) : p l := by
  induction l using in_ind with
  | h0 => exact h0
  | h1 l hl ih =>
    rw [inVal_cons hl, Bool.and_eq_true] at h
    have he := inPc_eta l h.1
    rcases inPc_bytes he with ⟨hn, c, r, rfl, hc⟩ | ⟨hn, hc⟩
    · rw [hn] at ih h
      exact h1 c r hc h.2 (ih h.2)
    · have := h2 l _ hn he hc h.2 (ih h.2)
      rwa [List.take_append_drop] at this
theorem inVal_lines (l : List UInt8) (h : inVal l = true) : inVal (inLn l) = true := by
  refine inVal_ind (p := fun l => inVal (inLn l) = true) inVal_nil ?_ ?_ l h
  · intro c r hc _ ih
    rw [inLn]
    split
    · rw [inVal_ascii c _ hc]; exact ih
    · split
      · exact ih
      · rw [inVal_ascii 10 _ (by decide)]; exact ih
  · intro l n _ hp hc _ ih
    rw [inLn_high _ _ hc, inVal_good hp]
    exact ih
def inNz (l : List UInt8) : List UInt8 := l.filter fun c => c != 0
theorem inVal_nz (l : List UInt8) (h : inVal l = true) : inVal (inNz l) = true := by
  refine inVal_ind (p := fun l => inVal (inNz l) = true) inVal_nil ?_ ?_ l h
  · intro c r hc _ ih
    unfold inNz at ih ⊢
    rw [List.filter_cons]
    split
    · rw [inVal_ascii c _ hc]; exact ih
    · exact ih
  · intro l n _ hp hc _ ih
    have e : inNz (l.take n ++ l.drop n) = l.take n ++ inNz (l.drop n) := by
      unfold inNz
      rw [List.filter_append, List.filter_eq_self.2]
      intro c hm
      have := hc c hm
      simp only [bne_iff_ne, ne_eq]
      rintro rfl
      simp at this
    rw [e, inVal_good hp]
    exact ih
theorem inLn_no (l : List UInt8) : ∀ c ∈ inLn l, c ≠ 13 := by
  rw [← inLn_eq]
  intro c hc
  obtain ⟨d, _, rfl⟩ := List.mem_map.1 hc
  unfold inR
  split
  · decide
  · assumption
theorem inLn_id (l : List UInt8) (h : ∀ c ∈ l, c ≠ 13) : inLn l = l := by
  induction l with
  | nil => rfl
  | cons c r ih => rw [inLn, if_pos (h c (by simp)), ih (fun d hd => h d (by simp [hd]))]
theorem inLn_len (l : List UInt8) : (inLn l).length ≤ l.length := by
  induction l with
  | nil => exact Nat.le_refl _
  | cons c r ih =>
    rw [inLn]
    split
    · simp; omega
    · split <;> simp <;> omega
/-- Without the mark ahead. -/
def inMarked (l : List UInt8) : Bool := [239, 187, 191].isPrefixOf l
def inDecode (l : List UInt8) : List UInt8 := inDec (if inMarked l = true then l.drop 3 else l)
def inText (l : List UInt8) : List UInt8 := inNz (inLn (inDecode l))
theorem inText_val (l : List UInt8) : inVal (inText l) = true := inVal_nz _ (inVal_lines _ (inVal_dec _).1)
theorem inText_no (l : List UInt8) : ∀ c ∈ inText l, c ≠ 0 ∧ c ≠ 13 := by
  intro c hc
  obtain ⟨h1, h2⟩ := List.mem_filter.1 hc
  exact ⟨by simpa using h2, inLn_no _ c h1⟩
theorem inText_again (l : List UInt8) (h : inMarked (inText l) = false) : inText (inText l) = inText l := by
  have h1 : inDecode (inText l) = inText l := by
    unfold inDecode
    rw [h]
    exact inDec_val _ (inText_val l)
  have h2 : ∀ x, inText x = inNz (inLn (inDecode x)) := fun _ => rfl
  rw [h2 (inText l), h1, inLn_id _ (fun c hc => (inText_no l c hc).2)]
  exact List.filter_eq_self.2 (fun c hc => by simpa using (inText_no l c hc).1)
/-! ### a rune and its bytes -/
theorem inAt (s : ByteArray) (i k : Nat) (c : UInt8) (h : (s.data.toList.drop i)[k]? = some c) : (s.get! (i + k)) = c ∧ i + k < s.size := by
  rw [List.getElem?_drop] at h
  obtain ⟨h1, h2⟩ := List.getElem?_eq_some_iff.1 h
  have h3 : i + k < s.size := by simpa using h1
  refine ⟨?_, h3⟩
  rw [← h2]
  show s.data[i + k]! = _
  rw [getElem!_pos s.data (i + k) h3]
  simp
theorem inNone (s : ByteArray) (i k : Nat) (h : (s.data.toList.drop i)[k]? = none) : ¬ i + k < s.size := by
  rw [List.getElem?_drop, List.getElem?_eq_none_iff] at h
  simpa using h
/-- A good piece's number. -/
def inRune (l : List UInt8) : Nat := match l with
  | [a] => a.toNat
  | [a, b] => a.toNat % 32 * 64 + b.toNat % 64
  | [a, b, c] => a.toNat % 16 * 4096 + b.toNat % 64 * 64 + c.toNat % 64
  | [a, b, c, d] => a.toNat % 8 * 262144 + b.toNat % 64 * 4096 + c.toNat % 64 * 64 + d.toNat % 64
  | _ => 0
theorem u8_of (a : UInt8) (n : Nat) (h : a.toNat = n) : n.toUInt8 = a := by
  subst h; simp
theorem inLead_spec (c : UInt8) :
    ((inLead c).1 = 1 ∧ (c.toNat ≤ 193 ∨ 245 ≤ c.toNat)) ∨
    ((inLead c) = (2, 128, 191) ∧ 194 ≤ c.toNat ∧ c.toNat ≤ 223) ∨
    ((inLead c) = (3, 160, 191) ∧ c.toNat = 224) ∨ ((inLead c) = (3, 128, 159) ∧ c.toNat = 237) ∨
    ((inLead c) = (3, 128, 191) ∧ 225 ≤ c.toNat ∧ c.toNat ≤ 239 ∧ c.toNat ≠ 237) ∨
    ((inLead c) = (4, 144, 191) ∧ c.toNat = 240) ∨ ((inLead c) = (4, 128, 191) ∧ 241 ≤ c.toNat ∧ c.toNat ≤ 243) ∨ ((inLead c) = (4, 128, 143) ∧ c.toNat = 244) := by
  unfold inLead
  by_cases a1 : 194 ≤ c.toNat ∧ c.toNat ≤ 223
  · rw [if_pos a1]; simp; omega
  rw [if_neg a1]
  by_cases a2 : c.toNat = 224
  · rw [if_pos a2]; simp; omega
  rw [if_neg a2]
  by_cases a3 : c.toNat = 237
  · rw [if_pos a3]; simp; omega
  rw [if_neg a3]
  by_cases a4 : 225 ≤ c.toNat ∧ c.toNat ≤ 239
  · rw [if_pos a4]; simp; omega
  rw [if_neg a4]
  by_cases a5 : c.toNat = 240
  · rw [if_pos a5]; simp; omega
  rw [if_neg a5]
  by_cases a6 : 241 ≤ c.toNat ∧ c.toNat ≤ 243
  · rw [if_pos a6]; simp; omega
  rw [if_neg a6]
  by_cases a7 : c.toNat = 244
  · rw [if_pos a7]; simp; omega
  rw [if_neg a7]
  simp; omega
theorem inIn_at (s : ByteArray) (i k lo hi : Nat) (h : inIn (s.data.toList.drop i) k lo hi = true) : ∃ c : UInt8, (s.data.toList.drop i)[k]? = some c ∧ s.get! (i + k) = c ∧ i + k < s.size ∧ lo ≤ c.toNat ∧ c.toNat ≤ hi := by
  obtain ⟨c, h1, h2, h3⟩ := inIn_some h
  obtain ⟨h4, h5⟩ := inAt s i k c h1
  exact ⟨c, h1, h4, h5, h2, h3⟩
theorem inIn_no (s : ByteArray) (i k lo hi : Nat) (h : inIn (s.data.toList.drop i) k lo hi = false) : ¬ (i + k < s.size ∧ lo ≤ (s.get! (i + k)).toNat ∧ (s.get! (i + k)).toNat ≤ hi) := by
  rintro ⟨h1, h2, h3⟩
  unfold inIn at h
  split at h
  · next c hc =>
    rw [(inAt s i k c hc).1] at h2 h3
    simp at h
    omega
  · next hc => exact inNone s i k hc h1
set_option maxRecDepth 100000 in
theorem inPc_decode (s : ByteArray) (i : Nat) (c : UInt8) (r : List UInt8) (hd : s.data.toList.drop i = c :: r) :
    (∀ n, inPc (c :: r) = (n, true) → Go.Utf8.decode s i = (inRune ((c :: r).take n), n)) ∧ ((inPc (c :: r)).2 = false → Go.Utf8.decode s i = (65533, 1)) := by
  have h0 : s.get! i = c := (inAt s i 0 c (by rw [hd]; rfl)).1
  have hcx : c.toNat < 256 := c.toNat_lt
  have H : Go.Utf8.decode s i = if c.toNat < 128 then (c.toNat, 1)
      else if c.toNat / 32 = 6 ∧ (i + 1 < s.size ∧ (s.get! (i + 1)).toNat / 64 = 2) then (if c.toNat % 32 * 64 + (s.get! (i + 1)).toNat % 64 ≥ 128 then (c.toNat % 32 * 64 + (s.get! (i + 1)).toNat % 64, 2) else (65533, 1))
      else if c.toNat / 16 = 14 ∧ (i + 1 < s.size ∧ (s.get! (i + 1)).toNat / 64 = 2) ∧ (i + 2 < s.size ∧ (s.get! (i + 2)).toNat / 64 = 2) then
        (if c.toNat % 16 * 4096 + (s.get! (i + 1)).toNat % 64 * 64 + (s.get! (i + 2)).toNat % 64 ≥ 2048 ∧ (c.toNat % 16 * 4096 + (s.get! (i + 1)).toNat % 64 * 64 + (s.get! (i + 2)).toNat % 64 < 55296 ∨ 57344 ≤ c.toNat % 16 * 4096 + (s.get! (i + 1)).toNat % 64 * 64 + (s.get! (i + 2)).toNat % 64) then (c.toNat % 16 * 4096 + (s.get! (i + 1)).toNat % 64 * 64 + (s.get! (i + 2)).toNat % 64, 3) else (65533, 1))
      else if c.toNat / 8 = 30 ∧ (i + 1 < s.size ∧ (s.get! (i + 1)).toNat / 64 = 2) ∧ (i + 2 < s.size ∧ (s.get! (i + 2)).toNat / 64 = 2) ∧ (i + 3 < s.size ∧ (s.get! (i + 3)).toNat / 64 = 2) then
        (if c.toNat % 8 * 262144 + (s.get! (i + 1)).toNat % 64 * 4096 + (s.get! (i + 2)).toNat % 64 * 64 + (s.get! (i + 3)).toNat % 64 ≥ 65536 ∧ c.toNat % 8 * 262144 + (s.get! (i + 1)).toNat % 64 * 4096 + (s.get! (i + 2)).toNat % 64 * 64 + (s.get! (i + 3)).toNat % 64 ≤ 1114111 then (c.toNat % 8 * 262144 + (s.get! (i + 1)).toNat % 64 * 4096 + (s.get! (i + 2)).toNat % 64 * 64 + (s.get! (i + 3)).toNat % 64, 4) else (65533, 1))
      else (65533, 1) := by
    unfold Go.Utf8.decode Go.Utf8.valid Go.Utf8.runeError
    simp only [Nat.add_zero, h0]
    generalize hn1 : (s.get! (i + 1)).toNat = n1
    generalize hn2 : (s.get! (i + 2)).toNat = n2
    generalize hn3 : (s.get! (i + 3)).toNat = n3
    generalize hk : c.toNat = k at hcx
    have b1 : n1 < 256 := by rw [← hn1]; exact (s.get! (i + 1)).toNat_lt
    have b2 : n2 < 256 := by rw [← hn2]; exact (s.get! (i + 2)).toNat_lt
    have b3 : n3 < 256 := by rw [← hn3]; exact (s.get! (i + 3)).toNat_lt
    clear hn1 hn2 hn3 hk h0 hd
    by_cases q0 : k < 128
    · simp [q0]
    · simp only [q0, if_false, Bool.and_eq_true, beq_iff_eq, decide_eq_true_eq, Bool.or_eq_true, ge_iff_le]
      by_cases q1 : k / 32 = 6 ∧ i + 1 < s.size ∧ n1 / 64 = 2
      · simp only [q1, and_self, if_true]
      · rw [if_neg q1, if_neg q1]
        by_cases q2 : k / 16 = 14 ∧ (i + 1 < s.size ∧ n1 / 64 = 2) ∧ (i + 2 < s.size ∧ n2 / 64 = 2)
        · rw [if_pos ⟨⟨q2.1, q2.2.1⟩, q2.2.2⟩, if_pos q2]
          have e : ∀ z : Nat, (z = k % 16 * 4096 + n1 % 64 * 64 + n2 % 64) → ((2048 ≤ z ∧ (0 ≤ (z : Int) ∧ (z : Int) < 55296 ∨ 57344 ≤ (z : Int) ∧ (z : Int) ≤ 1114111)) ↔ (2048 ≤ z ∧ (z < 55296 ∨ 57344 ≤ z))) := by intro z hz; omega
          have e' := e _ rfl
          by_cases q3 : 2048 ≤ k % 16 * 4096 + n1 % 64 * 64 + n2 % 64 ∧ (k % 16 * 4096 + n1 % 64 * 64 + n2 % 64 < 55296 ∨ 57344 ≤ k % 16 * 4096 + n1 % 64 * 64 + n2 % 64)
          · rw [if_pos q3, if_pos (e'.2 q3)]
          · rw [if_neg q3, if_neg (fun h => q3 (e'.1 h))]
        · rw [if_neg (fun h => q2 ⟨h.1.1, h.1.2, h.2⟩), if_neg q2]
          by_cases q4 : k / 8 = 30 ∧ (i + 1 < s.size ∧ n1 / 64 = 2) ∧ (i + 2 < s.size ∧ n2 / 64 = 2) ∧ (i + 3 < s.size ∧ n3 / 64 = 2)
          · rw [if_pos ⟨⟨⟨q4.1, q4.2.1⟩, q4.2.2.1⟩, q4.2.2.2⟩, if_pos q4]
            have e : ∀ z : Nat, (z = k % 8 * 262144 + n1 % 64 * 4096 + n2 % 64 * 64 + n3 % 64) → ((65536 ≤ z ∧ (0 ≤ (z : Int) ∧ (z : Int) < 55296 ∨ 57344 ≤ (z : Int) ∧ (z : Int) ≤ 1114111)) ↔ (65536 ≤ z ∧ z ≤ 1114111)) := by intro z hz; omega
            have e' := e _ rfl
            by_cases q5 : 65536 ≤ k % 8 * 262144 + n1 % 64 * 4096 + n2 % 64 * 64 + n3 % 64 ∧ k % 8 * 262144 + n1 % 64 * 4096 + n2 % 64 * 64 + n3 % 64 ≤ 1114111
            · rw [if_pos q5, if_pos (e'.2 q5)]
            · rw [if_neg q5, if_neg (fun h => q5 (e'.1 h))]
          · rw [if_neg (fun h => q4 ⟨h.1.1.1, h.1.1.2, h.1.2, h.2⟩), if_neg q4]
  rw [H]
  have sp := inLead_spec c
  have mk1 : ∀ b : UInt8, (c :: r)[1]? = some b → ∃ r1, r = b :: r1 := fun b hb => by
    cases r with
    | nil => simp at hb
    | cons x y => exact ⟨y, by simp at hb; rw [hb]⟩
  rcases inPc_cases c r with ⟨a, e⟩ | ⟨a, h1, e⟩ | ⟨a, h1, e⟩ | ⟨a, h1, h2, e⟩ | ⟨a, h1, h2, e⟩ | ⟨a, h1, h2, h3, e⟩ | ⟨a, h1, h2, h3, e⟩ <;> rw [e]
  · -- one byte
    have hc : c.toNat < 128 ∨ (128 ≤ c.toNat ∧ c.toNat ≤ 193) ∨ 245 ≤ c.toNat := by
      rcases sp with ⟨_, h⟩ | ⟨h, _⟩ | ⟨h, _⟩ | ⟨h, _⟩ | ⟨h, _⟩ | ⟨h, _⟩ | ⟨h, _⟩ | ⟨h, _⟩
      · omega
      all_goals (rw [h] at a; simp at a)
    refine ⟨fun n hn => ?_, fun hn => ?_⟩
    · simp only [Prod.mk.injEq, decide_eq_true_eq] at hn
      obtain ⟨rfl, hn⟩ := hn
      rw [if_pos hn]; rfl
    · simp only [decide_eq_false_iff_not] at hn
      rw [if_neg hn]
      by_cases q1 : c.toNat / 32 = 6 ∧ (i + 1 < s.size ∧ (s.get! (i + 1)).toNat / 64 = 2)
      · rw [if_pos q1, if_neg]
        have := (s.get! (i + 1)).toNat_lt
        omega
      · rw [if_neg q1, if_neg (by omega)]
        by_cases q2 : c.toNat / 8 = 30 ∧ (i + 1 < s.size ∧ (s.get! (i + 1)).toNat / 64 = 2) ∧ (i + 2 < s.size ∧ (s.get! (i + 2)).toNat / 64 = 2) ∧ (i + 3 < s.size ∧ (s.get! (i + 3)).toNat / 64 = 2)
        · rw [if_pos q2, if_neg]
          omega
        · rw [if_neg q2]
  · refine ⟨fun n hn => absurd hn (by simp), fun _ => ?_⟩
    rw [← hd] at h1
    have g1 := inIn_no s i 1 _ _ h1
    generalize hn1 : (s.get! (i + 1)).toNat = n1 at g1 ⊢
    generalize (s.get! (i + 2)).toNat = n2
    generalize (s.get! (i + 3)).toNat = n3
    have b1 : n1 < 256 := by rw [← hn1]; exact (s.get! (i + 1)).toNat_lt
    rcases sp with ⟨h, _⟩ | ⟨h, h'⟩ | ⟨h, h'⟩ | ⟨h, h'⟩ | ⟨h, h'⟩ | ⟨h, h'⟩ | ⟨h, h'⟩ | ⟨h, h'⟩
    · exact absurd h a
    all_goals
      rw [h] at g1
      simp only at g1
      rw [if_neg (by omega)]
      repeat (first | rfl | (rw [if_neg (by omega)]) | (split <;> first | rfl | (rw [if_neg (by omega)])))
  · refine ⟨fun n hn => ?_, fun h => absurd h (by simp)⟩
    simp only [Prod.mk.injEq, and_true] at hn
    subst hn
    rw [← hd] at h1
    obtain ⟨b, k1, k2, k3, k4, k5⟩ := inIn_at s i 1 _ _ h1
    rw [hd] at k1
    obtain ⟨r1, rfl⟩ := mk1 b k1
    rw [k2]
    have hc : 194 ≤ c.toNat ∧ c.toNat ≤ 223 ∧ 128 ≤ b.toNat ∧ b.toNat ≤ 191 := by
      rcases sp with ⟨h, _⟩ | ⟨h, h'⟩ | ⟨h, h'⟩ | ⟨h, h'⟩ | ⟨h, h'⟩ | ⟨h, h'⟩ | ⟨h, h'⟩ | ⟨h, h'⟩
      · omega
      · rw [h] at k4 k5; exact ⟨h'.1, h'.2, k4, k5⟩
      all_goals (rw [h] at a; simp at a)
    rw [if_neg (by omega), if_pos (by omega), if_pos (by omega)]
    rfl
  · refine ⟨fun n hn => absurd hn (by simp), fun _ => ?_⟩
    rw [← hd] at h2
    have g2 := inIn_no s i 2 _ _ h2
    generalize (s.get! (i + 1)).toNat = n1
    generalize hn2 : (s.get! (i + 2)).toNat = n2 at g2 ⊢
    generalize (s.get! (i + 3)).toNat = n3
    have hc : 224 ≤ c.toNat := by
      rcases sp with ⟨h, _⟩ | ⟨h, h'⟩ | ⟨h, h'⟩ | ⟨h, h'⟩ | ⟨h, h'⟩ | ⟨h, h'⟩ | ⟨h, h'⟩ | ⟨h, h'⟩
      · omega
      · rw [h] at a; simp at a
      all_goals omega
    rw [if_neg (by omega), if_neg (by omega), if_neg (by omega), if_neg (by omega)]
  · refine ⟨fun n hn => ?_, fun h => absurd h (by simp)⟩
    simp only [Prod.mk.injEq, and_true] at hn
    subst hn
    rw [← hd] at h1 h2
    obtain ⟨b, k1, k2, k3, k4, k5⟩ := inIn_at s i 1 _ _ h1
    obtain ⟨d, m1, m2, m3, m4, m5⟩ := inIn_at s i 2 _ _ h2
    rw [hd] at k1 m1
    obtain ⟨r1, rfl⟩ := mk1 b k1
    obtain ⟨r2, rfl⟩ : ∃ r2, r1 = d :: r2 := by
      cases r1 with
      | nil => simp at m1
      | cons x y => exact ⟨y, by simp at m1; rw [m1]⟩
    rw [k2, m2]
    have hc : 224 ≤ c.toNat ∧ c.toNat ≤ 239 ∧ 128 ≤ b.toNat ∧ b.toNat ≤ 191 ∧ (c.toNat = 224 → 160 ≤ b.toNat) ∧ (c.toNat = 237 → b.toNat ≤ 159) := by
      rcases sp with ⟨h, _⟩ | ⟨h, h'⟩ | ⟨h, h'⟩ | ⟨h, h'⟩ | ⟨h, h'⟩ | ⟨h, h'⟩ | ⟨h, h'⟩ | ⟨h, h'⟩
      · omega
      · rw [h] at a; simp at a
      · rw [h] at k4 k5; simp only at k4 k5; omega
      · rw [h] at k4 k5; simp only at k4 k5; omega
      · rw [h] at k4 k5; simp only at k4 k5; omega
      all_goals (rw [h] at a; simp at a)
    rw [if_neg (by omega), if_neg (by omega), if_pos (by omega), if_pos (by omega)]
    rfl
  · refine ⟨fun n hn => absurd hn (by simp), fun _ => ?_⟩
    rw [← hd] at h3
    have g3 := inIn_no s i 3 _ _ h3
    generalize (s.get! (i + 1)).toNat = n1
    generalize (s.get! (i + 2)).toNat = n2
    generalize hn3 : (s.get! (i + 3)).toNat = n3 at g3 ⊢
    have hc : 240 ≤ c.toNat := by
      rcases sp with ⟨h, _⟩ | ⟨h, h'⟩ | ⟨h, h'⟩ | ⟨h, h'⟩ | ⟨h, h'⟩ | ⟨h, h'⟩ | ⟨h, h'⟩ | ⟨h, h'⟩
      · omega
      all_goals first | omega | (rw [h] at a; simp at a)
    rw [if_neg (by omega), if_neg (by omega), if_neg (by omega), if_neg (by omega)]
  · refine ⟨fun n hn => ?_, fun h => absurd h (by simp)⟩
    simp only [Prod.mk.injEq, and_true] at hn
    subst hn
    rw [← hd] at h1 h2 h3
    obtain ⟨b, k1, k2, k3, k4, k5⟩ := inIn_at s i 1 _ _ h1
    obtain ⟨d, m1, m2, m3, m4, m5⟩ := inIn_at s i 2 _ _ h2
    obtain ⟨f, p1, p2, p3, p4, p5⟩ := inIn_at s i 3 _ _ h3
    rw [hd] at k1 m1 p1
    obtain ⟨r1, rfl⟩ := mk1 b k1
    obtain ⟨r2, rfl⟩ : ∃ r2, r1 = d :: r2 := by
      cases r1 with
      | nil => simp at m1
      | cons x y => exact ⟨y, by simp at m1; rw [m1]⟩
    obtain ⟨r3, rfl⟩ : ∃ r3, r2 = f :: r3 := by
      cases r2 with
      | nil => simp at p1
      | cons x y => exact ⟨y, by simp at p1; rw [p1]⟩
    rw [k2, m2, p2]
    have hc : 240 ≤ c.toNat ∧ c.toNat ≤ 244 ∧ 128 ≤ b.toNat ∧ b.toNat ≤ 191 ∧ (c.toNat = 240 → 144 ≤ b.toNat) ∧ (c.toNat = 244 → b.toNat ≤ 143) := by
      rcases sp with ⟨h, _⟩ | ⟨h, h'⟩ | ⟨h, h'⟩ | ⟨h, h'⟩ | ⟨h, h'⟩ | ⟨h, h'⟩ | ⟨h, h'⟩ | ⟨h, h'⟩
      · omega
      all_goals first | (rw [h] at a; simp at a; done) | (rw [h] at k4 k5; simp only at k4 k5; omega)
    rw [if_neg (by omega), if_neg (by omega), if_neg (by omega), if_pos (by omega), if_pos (by omega)]
    rfl
set_option maxHeartbeats 4000000 in
/-- The bytes of a good piece's number are the piece. -/
theorem inRune_bytes {l : List UInt8} {n : Nat} (h : inPc l = (n, true)) : Go.Lib.encodeRune (inRune (l.take n)) = l.take n ∧ inRune (l.take n) ≤ 1114111 ∧ (inRune (l.take n) = 0 ↔ l.take n = [0]) ∧ (inRune (l.take n) = 65533 ↔ l.take n = inBad) := by
  have hne : l ≠ [] := by rintro rfl; simp [inPc] at h
  obtain ⟨c, r, rfl⟩ : ∃ c r, l = c :: r := by cases l with
    | nil => exact absurd rfl hne
    | cons c r => exact ⟨c, r, rfl⟩
  have sp := inLead_spec c
  have hcx : c.toNat < 256 := c.toNat_lt
  have mk1 : ∀ b : UInt8, (c :: r)[1]? = some b → ∃ r1, r = b :: r1 := fun b hb => by
    cases r with
    | nil => simp at hb
    | cons x y => exact ⟨y, by simp at hb; rw [hb]⟩
  have eqb : ∀ (a b : UInt8), a = b ↔ a.toNat = b.toNat := fun a b => ⟨fun e => by rw [e], fun e => UInt8.toNat_inj.1 e⟩
  rcases inPc_cases c r with ⟨a, e⟩ | ⟨a, h1, e⟩ | ⟨a, h1, e⟩ | ⟨a, h1, h2, e⟩ | ⟨a, h1, h2, e⟩ | ⟨a, h1, h2, h3, e⟩ | ⟨a, h1, h2, h3, e⟩ <;> rw [e] at h <;> (try (simp at h; done)) <;> (simp only [Prod.mk.injEq] at h; obtain ⟨rfl, hg⟩ := h)
  · have hc : c.toNat < 128 := by simpa using hg
    have e1 : List.take 1 (c :: r) = [c] := by simp
    have er : inRune [c] = c.toNat := rfl
    rw [e1, er]
    refine ⟨?_, ?_, ?_, ?_⟩
    · unfold Go.Lib.encodeRune
      rw [Go.Lib.encodeRuneZ_one (by omega) (by omega)]
      simp
    · omega
    · simp only [List.cons.injEq, and_true, eqb]; rfl
    · exact ⟨fun hh => by omega, fun hh => by simp [inBad] at hh⟩
  · obtain ⟨b, k1, k4, k5⟩ := inIn_some h1
    obtain ⟨r1, rfl⟩ := mk1 b k1
    have hc : 194 ≤ c.toNat ∧ c.toNat ≤ 223 ∧ 128 ≤ b.toNat ∧ b.toNat ≤ 191 := by
      rcases sp with ⟨h, _⟩ | ⟨h, h'⟩ | ⟨h, h'⟩ | ⟨h, h'⟩ | ⟨h, h'⟩ | ⟨h, h'⟩ | ⟨h, h'⟩ | ⟨h, h'⟩
      · omega
      · rw [h] at k4 k5; exact ⟨h'.1, h'.2, k4, k5⟩
      all_goals (rw [h] at a; simp at a)
    have e1 : List.take 2 (c :: b :: r1) = [c, b] := by simp
    have er : inRune [c, b] = c.toNat % 32 * 64 + b.toNat % 64 := rfl
    rw [e1, er]
    refine ⟨?_, ?_, ?_, ?_⟩
    · unfold Go.Lib.encodeRune
      rw [Go.Lib.encodeRuneZ_two (by omega) (by omega)]
      simp only [List.map_cons, List.map_nil, List.cons.injEq, and_true]
      exact ⟨u8_of _ _ (by omega), u8_of _ _ (by omega)⟩
    · omega
    · exact ⟨fun hh => by omega, fun hh => by simp at hh⟩
    · exact ⟨fun hh => by omega, fun hh => by simp [inBad] at hh⟩
  · obtain ⟨b, k1, k4, k5⟩ := inIn_some h1
    obtain ⟨d, m1, m4, m5⟩ := inIn_some h2
    obtain ⟨r1, rfl⟩ := mk1 b k1
    obtain ⟨r2, rfl⟩ : ∃ r2, r1 = d :: r2 := by
      cases r1 with
      | nil => simp at m1
      | cons x y => exact ⟨y, by simp at m1; rw [m1]⟩
    have hc : 224 ≤ c.toNat ∧ c.toNat ≤ 239 ∧ 128 ≤ b.toNat ∧ b.toNat ≤ 191 ∧ (c.toNat = 224 → 160 ≤ b.toNat) ∧ (c.toNat = 237 → b.toNat ≤ 159) := by
      rcases sp with ⟨h, _⟩ | ⟨h, h'⟩ | ⟨h, h'⟩ | ⟨h, h'⟩ | ⟨h, h'⟩ | ⟨h, h'⟩ | ⟨h, h'⟩ | ⟨h, h'⟩
      · omega
      · rw [h] at a; simp at a
      · rw [h] at k4 k5; simp only at k4 k5; omega
      · rw [h] at k4 k5; simp only at k4 k5; omega
      · rw [h] at k4 k5; simp only at k4 k5; omega
      all_goals (rw [h] at a; simp at a)
    have e1 : List.take 3 (c :: b :: d :: r2) = [c, b, d] := by simp
    have er : inRune [c, b, d] = c.toNat % 16 * 4096 + b.toNat % 64 * 64 + d.toNat % 64 := rfl
    rw [e1, er]
    refine ⟨?_, ?_, ?_, ?_⟩
    · unfold Go.Lib.encodeRune
      rw [Go.Lib.encodeRuneZ_three (by omega)]
      simp only [List.map_cons, List.map_nil, List.cons.injEq, and_true]
      exact ⟨u8_of _ _ (by omega), u8_of _ _ (by omega), u8_of _ _ (by omega)⟩
    · omega
    · exact ⟨fun hh => by omega, fun hh => by simp at hh⟩
    · unfold inBad; simp only [List.cons.injEq, and_true, eqb]
      constructor
      · intro hh; refine ⟨?_, ?_, ?_⟩ <;> simp <;> omega
      · rintro ⟨q1, q2, q3⟩; simp at q1 q2 q3; omega
  · obtain ⟨b, k1, k4, k5⟩ := inIn_some h1
    obtain ⟨d, m1, m4, m5⟩ := inIn_some h2
    obtain ⟨f, p1, p4, p5⟩ := inIn_some h3
    obtain ⟨r1, rfl⟩ := mk1 b k1
    obtain ⟨r2, rfl⟩ : ∃ r2, r1 = d :: r2 := by
      cases r1 with
      | nil => simp at m1
      | cons x y => exact ⟨y, by simp at m1; rw [m1]⟩
    obtain ⟨r3, rfl⟩ : ∃ r3, r2 = f :: r3 := by
      cases r2 with
      | nil => simp at p1
      | cons x y => exact ⟨y, by simp at p1; rw [p1]⟩
    have hc : 240 ≤ c.toNat ∧ c.toNat ≤ 244 ∧ 128 ≤ b.toNat ∧ b.toNat ≤ 191 ∧ (c.toNat = 240 → 144 ≤ b.toNat) ∧ (c.toNat = 244 → b.toNat ≤ 143) := by
      rcases sp with ⟨h, _⟩ | ⟨h, h'⟩ | ⟨h, h'⟩ | ⟨h, h'⟩ | ⟨h, h'⟩ | ⟨h, h'⟩ | ⟨h, h'⟩ | ⟨h, h'⟩
      · omega
      all_goals first | (rw [h] at a; simp at a; done) | (rw [h] at k4 k5; simp only at k4 k5; omega)
    have e1 : List.take 4 (c :: b :: d :: f :: r3) = [c, b, d, f] := by simp
    have er : inRune [c, b, d, f] = c.toNat % 8 * 262144 + b.toNat % 64 * 4096 + d.toNat % 64 * 64 + f.toNat % 64 := rfl
    rw [e1, er]
    refine ⟨?_, ?_, ?_, ?_⟩
    · unfold Go.Lib.encodeRune
      rw [Go.Lib.encodeRuneZ_four (by omega) (by omega)]
      simp only [List.map_cons, List.map_nil, List.cons.injEq, and_true]
      exact ⟨u8_of _ _ (by omega), u8_of _ _ (by omega), u8_of _ _ (by omega), u8_of _ _ (by omega)⟩
    · omega
    · exact ⟨fun hh => by omega, fun hh => by simp at hh⟩
    · exact ⟨fun hh => by omega, fun hh => by simp [inBad] at hh⟩
end Go.Proofs.YtckajljkdlejoaaDoor.PAll
