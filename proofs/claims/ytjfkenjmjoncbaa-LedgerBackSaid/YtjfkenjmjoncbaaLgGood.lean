import Derived.Test.YtjfkenjmjoncbaaPAllx0
import Derived.Test.YtjfkenjmjoncbaaLgSem
namespace Go.Proofs.Ytjfkenjmjoncbaa.Lg
open Go Go.Maps Go.WideShapes

/-! What a ledger is behind a script. -/
structure LG.Good (L : LG) : Prop where
  ok : L.Ok
  next : 1 ≤ L.next ∧ L.next < 9223372036854775808
  cur : L.cur < L.next
  ids : ∀ p ∈ L.posts, p.id < L.next
  vers : ∀ p ∈ L.posts, 1 ≤ p.ver ∧ p.ver ≤ L.newest
  old : ∀ p ∈ L.posts, L.cur < p.id ∨ p.ver = L.newest
theorem LG.empty_good : LG.empty.Good := ⟨LG.empty_ok, by simp [LG.empty], by simp [LG.empty], by simp [LG.empty], by simp [LG.empty], by simp [LG.empty]⟩
theorem LG.stale_least {L : LG} (hL : L.Ok) {s p : LP} (h : L.stale = some s) (hp : p ∈ L.posts) (hc : L.cand p = true) : s.id ≤ p.id := by
  have hr := hL.rise
  unfold LG.stale at h
  generalize L.posts = l at h hp hr
  induction l with
  | nil => cases hp
  | cons a l ih =>
    obtain ⟨h1, h2⟩ := List.pairwise_cons.1 hr
    by_cases ha : L.cand a = true
    · rw [List.find?_cons_of_pos ha] at h
      cases h
      rcases List.mem_cons.1 hp with rfl | hp'
      · exact Int.le_refl _
      · have := h1 p hp'; omega
    · rw [List.find?_cons_of_neg ha] at h
      rcases List.mem_cons.1 hp with rfl | hp'
      · exact absurd hc ha
      · exact ih h hp' h2
theorem LG.apply_good {L : LG} (h : L.Good) {r : RC} (hr : r.Wf) : (L.apply r).Good := by
  have hok := LG.apply_ok h.ok hr
  unfold LG.apply at hok ⊢
  split at hok
  · next ha =>
    rw [if_pos ha]
    rcases LG.applies_cases ha with ⟨k, h0, h1, h2, h3, h4, h5⟩ | ⟨k, h0, h1⟩ | ⟨k, h0, h1, h2, h3, h4⟩ | ⟨k, h0, h1, h2, h3, s, h4, h5⟩
    · have ea : L.act r = ⟨setP L.posts ⟨r.id, r.ver, r.text⟩, L.pols, L.next + 1, L.cur⟩ := by simp [LG.act, k]
      rw [ea] at hok ⊢
      have hn := h.next
      have hc := h.cur
      refine ⟨hok, by simp only; omega, by simp only; omega, fun p hp => ?_, fun p hp => ?_, fun p hp => ?_⟩
      all_goals
        simp only at hp ⊢
        rcases mem_setP.1 hp with rfl | ⟨g, _⟩
      · simp only; omega
      · have := h.ids p g; omega
      · exact ⟨h1, by simp only [LG.newest] at h5 ⊢; omega⟩
      · exact h.vers p g
      · right; exact h5
      · exact h.old p g
    · have ea : L.act r = ⟨delP L.posts r.id, L.pols, L.next, L.cur⟩ := by simp [LG.act, k]
      rw [ea] at hok ⊢
      exact ⟨hok, h.next, h.cur, fun p hp => h.ids p (mem_delP.1 hp).1, fun p hp => h.vers p (mem_delP.1 hp).1, fun p hp => h.old p (mem_delP.1 hp).1⟩
    · have ea : L.act r = ⟨L.posts, L.pols ++ [r.text], L.next, 0⟩ := by simp [LG.act, k]
      rw [ea] at hok ⊢
      have hn := h.next
      refine ⟨hok, hn, by simp only; omega, h.ids, fun p hp => ?_, fun p hp => ?_⟩
      · have := h.vers p hp
        simp only [LG.newest, List.length_append, List.length_singleton] at this ⊢
        omega
      · left
        have := h.ok.ids p hp
        simp only
        omega
    · have ea : L.act r = ⟨setP L.posts ⟨r.id, r.ver, r.text⟩, L.pols, L.next, r.id⟩ := by simp [LG.act, k]
      rw [ea] at hok ⊢
      have hs := LG.stale_mem h4
      have hid := h.ids s hs.1
      refine ⟨hok, h.next, by simp only; omega, fun p hp => ?_, fun p hp => ?_, fun p hp => ?_⟩
      all_goals
        simp only at hp ⊢
        rcases mem_setP.1 hp with rfl | ⟨g, g2⟩
      · simp only; omega
      · exact h.ids p g
      · exact ⟨h1, by simp only [LG.newest] at h3 ⊢; omega⟩
      · exact h.vers p g
      · right; exact h3
      · by_cases c : p.ver = L.newest
        · right; exact c
        · left
          have hc : L.cand p = true := by
            unfold LG.cand
            rcases h.old p g with q | q
            · simp [c, q]
            · exact absurd q c
          have := LG.stale_least h.ok h4 g hc
          simp only at g2
          omega
  · next ha => rw [if_neg ha]; exact h
/-! ### sweeping -/
def cntV (v : Int) (l : List LP) : Nat := (l.filter (fun p => decide (p.ver ≠ v))).length
def LG.stales (L : LG) : Nat := cntV L.newest L.posts
theorem LG.Good.cand {L : LG} (h : L.Good) {p : LP} (hp : p ∈ L.posts) : L.cand p = decide (p.ver ≠ L.newest) := by
  unfold LG.cand
  by_cases c : p.ver = L.newest
  · simp [c]
  · rcases h.old p hp with q | q
    · simp [c, q]
    · exact absurd q c
theorem LG.Good.some_stale {L : LG} (h : L.Good) (hs : 0 < L.stales) : ∃ s, L.stale = some s := by
  unfold LG.stales cntV at hs
  obtain ⟨p, hp⟩ := List.exists_mem_of_length_pos hs
  obtain ⟨h1, h2⟩ := List.mem_filter.1 hp
  cases hst : L.stale with
  | some s => exact ⟨s, rfl⟩
  | none =>
    have := List.find?_eq_none.1 hst p h1
    rw [h.cand h1] at this
    exact absurd h2 this
theorem LG.Good.no_stale {L : LG} (h : L.Good) (hs : L.stales = 0) : L.stale = none ∧ ∀ p ∈ L.posts, p.ver = L.newest := by
  unfold LG.stales cntV at hs
  have h0 := List.filter_eq_nil_iff.1 (List.length_eq_zero_iff.1 hs)
  refine ⟨List.find?_eq_none.2 fun p hp => ?_, fun p hp => ?_⟩
  · rw [h.cand hp]; exact h0 p hp
  · have := h0 p hp
    simpa using this
theorem setP_split {l : List LP} (h : Rise l) {p q : LP} (hq : q ∈ l) (e : q.id = p.id) : ∃ a b, l = a ++ q :: b ∧ setP l p = a ++ p :: b := by
  obtain ⟨a, b, hl⟩ := List.append_of_mem hq
  refine ⟨a, b, hl, ?_⟩
  subst hl
  have h1 : ∀ x ∈ a, x.id < p.id := fun x hx => by
    have := (List.pairwise_append.1 h).2.2 x hx q (List.mem_cons_self ..)
    omega
  have h2 : ∀ x ∈ b, p.id < x.id := fun x hx => by
    have := (List.pairwise_cons.1 (List.pairwise_append.1 h).2.1).1 x hx
    omega
  unfold setP
  rw [List.filter_append, List.filter_append, List.filter_cons_of_neg (by simp; omega), List.filter_cons_of_neg (by simp; omega),
    List.filter_eq_self.2 (fun x hx => by simpa using h1 x hx), List.filter_eq_nil_iff.2 (fun x hx => by have := h2 x hx; simp; omega),
    List.filter_eq_nil_iff.2 (fun x hx => by have := h1 x hx; simp; omega), List.filter_eq_self.2 (fun x hx => by simpa using h2 x hx)]
  simp
/-- a stale post is converted -/
theorem LG.Good.sweep {L : LG} (h : L.Good) {s : LP} (hs : L.stale = some s) {t : ByteArray} (ht : t.size ≤ 300) : L.applies ⟨4, s.id, L.newest, t⟩ = true ∧ L.act ⟨4, s.id, L.newest, t⟩ = ⟨setP L.posts ⟨s.id, L.newest, t⟩, L.pols, L.next, s.id⟩ ∧
    (setP L.posts ⟨s.id, L.newest, t⟩).map LP.id = L.posts.map LP.id ∧ ((⟨setP L.posts ⟨s.id, L.newest, t⟩, L.pols, L.next, s.id⟩ : LG).stales + 1 = L.stales) := by
  have hm := LG.stale_mem hs
  have hid := h.ok.ids s hm.1
  have hv := h.vers s hm.1
  refine ⟨?_, by simp [LG.act], ?_, ?_⟩
  · have hok : RC.ok ⟨4, s.id, L.newest, t⟩ = true := by
      unfold RC.ok
      rw [if_pos ⟨by simp, by simp only; omega, by simp only; omega⟩]
    unfold LG.applies
    rw [if_pos hok]
    simp [hs]
  · obtain ⟨a, b, e1, e2⟩ := setP_split h.ok.rise (p := ⟨s.id, L.newest, t⟩) hm.1 rfl
    rw [e2, e1]
    simp
  · obtain ⟨a, b, e1, e2⟩ := setP_split h.ok.rise (p := ⟨s.id, L.newest, t⟩) hm.1 rfl
    show cntV L.newest (setP L.posts ⟨s.id, L.newest, t⟩) + 1 = cntV L.newest L.posts
    rw [e2, e1]
    unfold cntV
    rw [List.filter_append, List.filter_append, List.filter_cons_of_neg (by simp), List.filter_cons_of_pos (by simpa using hm.2.1)]
    simp only [List.length_append, List.length_cons]
    omega
end Go.Proofs.Ytjfkenjmjoncbaa.Lg
