import Derived.Test.YtjfkenjmjoncbaaPAllx0
import Derived.Test.YtjfkenjmjoncbaaLgMap
namespace Go.Proofs.Ytjfkenjmjoncbaa.Lg
open Go Go.Maps Go.WideShapes

/-! What a ledger is, and what a record does to it. -/
structure LG where
  posts : List LP
  pols : List ByteArray
  next : Int
  cur : Int
structure RC where
  kind : Int
  id : Int
  ver : Int
  text : ByteArray
def LG.newest (L : LG) : Int := (L.pols.length : Int)
def LG.empty : LG := ⟨[], [], 1, 0⟩
def LG.cand (L : LG) (p : LP) : Bool := decide (p.ver ≠ L.newest) && decide (L.cur < p.id)
def LG.stale (L : LG) : Option LP := L.posts.find? L.cand
def RC.ok (r : RC) : Bool :=
  if (r.kind = 1 ∨ r.kind = 4) ∧ (0 < r.id ∧ 0 < r.ver) ∧ r.text.size ≤ 4096 then true
  else if r.kind = 2 ∧ 0 < r.id ∧ r.ver = 0 ∧ r.text = ByteArray.empty then true
  else if r.kind = 3 ∧ r.id = 0 ∧ 0 < r.ver ∧ r.text.size ≤ 2000 then true else false
def LG.applies (L : LG) (r : RC) : Bool :=
  if r.ok = true then
    if r.kind = 1 then decide (r.id = L.next) && decide (r.id < 9223372036854775807) && decide (r.ver = L.newest)
    else if r.kind = 2 then L.posts.any (fun p => p.id == r.id)
    else if r.kind = 3 then decide (r.ver = L.newest + 1) && decide (r.ver ≤ 100)
    else match L.stale with
      | some s => decide (s.id = r.id) && decide (r.ver = L.newest)
      | none => false
  else false
def LG.act (L : LG) (r : RC) : LG :=
  if r.kind = 1 then ⟨setP L.posts ⟨r.id, r.ver, r.text⟩, L.pols, L.next + 1, L.cur⟩
  else if r.kind = 2 then ⟨delP L.posts r.id, L.pols, L.next, L.cur⟩
  else if r.kind = 3 then ⟨L.posts, L.pols ++ [r.text], L.next, 0⟩
  else ⟨setP L.posts ⟨r.id, r.ver, r.text⟩, L.pols, L.next, r.id⟩
def LG.apply (L : LG) (r : RC) : LG := if L.applies r = true then L.act r else L
def LG.errno (L : LG) (r : RC) : Int := if L.applies r = true then 0 else 1
/-- what a ledger's walks ask -/
structure LG.Ok (L : LG) : Prop where
  rise : Rise L.posts
  ids : ∀ p ∈ L.posts, 1 ≤ p.id ∧ p.id ≤ 18446744073709551615
  vers : ∀ p ∈ L.posts, 0 ≤ p.ver ∧ p.ver ≤ 18446744073709551615
  next : 0 ≤ L.next ∧ L.next ≤ 18446744073709551615
  cur : 0 ≤ L.cur ∧ L.cur ≤ 18446744073709551615
  pols : L.pols.length ≤ 100
  texts : ∀ p ∈ L.posts, p.text.size ≤ 4096
  ptexts : ∀ s ∈ L.pols, s.size ≤ 2000
/-- a record's numbers are of their types -/
structure RC.Wf (r : RC) : Prop where
  kind : (Lit.int .i64 r.kind).wf = true
  id : 0 ≤ r.id ∧ r.id ≤ 18446744073709551615
  ver : 0 ≤ r.ver ∧ r.ver ≤ 18446744073709551615
theorem LG.empty_ok : LG.empty.Ok := ⟨List.Pairwise.nil, by simp [LG.empty], by simp [LG.empty], by simp [LG.empty], by simp [LG.empty], by simp [LG.empty], by simp [LG.empty], by simp [LG.empty]⟩
theorem RC.ok_kind {r : RC} (h : r.ok = true) : r.kind = 1 ∨ r.kind = 2 ∨ r.kind = 3 ∨ r.kind = 4 := by
  unfold RC.ok at h
  split at h
  · omega
  · split at h
    · omega
    · split at h
      · omega
      · cases h
theorem LG.applies_ok {L : LG} {r : RC} (h : L.applies r = true) : r.ok = true := by
  unfold LG.applies at h
  split at h
  · assumption
  · cases h
theorem RC.ok_id {r : RC} (h : r.ok = true) (hk : r.kind ≠ 3) : 0 < r.id := by
  unfold RC.ok at h
  split at h
  · omega
  · split at h
    · omega
    · split at h
      · omega
      · cases h
theorem LG.stale_mem {L : LG} {s : LP} (h : L.stale = some s) : s ∈ L.posts ∧ s.ver ≠ L.newest ∧ L.cur < s.id := by
  have h1 := List.find?_some h
  simp only [LG.cand, Bool.and_eq_true, decide_eq_true_eq] at h1
  exact ⟨List.mem_of_find?_eq_some h, h1.1, h1.2⟩
/-- what it is that applies, one kind behind the other -/
theorem LG.applies_cases {L : LG} {r : RC} (h : L.applies r = true) :
    (r.kind = 1 ∧ 0 < r.id ∧ 0 < r.ver ∧ r.text.size ≤ 4096 ∧ r.id = L.next ∧ r.id < 9223372036854775807 ∧ r.ver = L.newest) ∨ (r.kind = 2 ∧ 0 < r.id ∧ L.posts.any (fun p => p.id == r.id) = true) ∨
    (r.kind = 3 ∧ r.id = 0 ∧ 0 < r.ver ∧ r.text.size ≤ 2000 ∧ r.ver = L.newest + 1 ∧ r.ver ≤ 100) ∨ (r.kind = 4 ∧ 0 < r.id ∧ 0 < r.ver ∧ r.text.size ≤ 4096 ∧ r.ver = L.newest ∧ ∃ s, L.stale = some s ∧ s.id = r.id) := by
  have hok := LG.applies_ok h
  have hk := RC.ok_kind hok
  unfold LG.applies at h
  rw [if_pos hok] at h
  rcases hk with k | k | k | k
  · simp only [RC.ok, k, true_or, true_and] at hok
    simp only [k, if_true, Bool.and_eq_true, decide_eq_true_eq] at h
    have h2 : (0 < r.id ∧ 0 < r.ver) ∧ r.text.size ≤ 4096 := by
      by_cases c : (0 < r.id ∧ 0 < r.ver) ∧ r.text.size ≤ 4096
      · exact c
      · rw [if_neg c] at hok
        simp at hok
    exact .inl ⟨k, h2.1.1, h2.1.2, h2.2, h.1.1, h.1.2, h.2⟩
  · have h0 := RC.ok_id hok (by omega)
    simp only [k] at h
    exact .inr (.inl ⟨k, h0, by simpa using h⟩)
  · have h2 : r.id = 0 ∧ 0 < r.ver ∧ r.text.size ≤ 2000 := by
      simp only [RC.ok, k] at hok
      by_cases c : r.id = 0 ∧ 0 < r.ver ∧ r.text.size ≤ 2000
      · exact c
      · exfalso
        revert hok
        simp [c]
    simp only [k] at h
    simp at h
    exact .inr (.inr (.inl ⟨k, h2.1, h2.2.1, h2.2.2, h.1, h.2⟩))
  · simp only [RC.ok, k, or_true, true_and] at hok
    have h2 : (0 < r.id ∧ 0 < r.ver) ∧ r.text.size ≤ 4096 := by
      by_cases c : (0 < r.id ∧ 0 < r.ver) ∧ r.text.size ≤ 4096
      · exact c
      · rw [if_neg c] at hok
        simp at hok
    simp only [k] at h
    simp at h
    split at h
    · next s hs =>
      simp at h
      exact .inr (.inr (.inr ⟨k, h2.1.1, h2.1.2, h2.2, h.2, s, hs, h.1⟩))
    · cases h
theorem LG.apply_ok {L : LG} (hL : L.Ok) {r : RC} (hr : r.Wf) : (L.apply r).Ok := by
  unfold LG.apply
  split
  · next ha =>
    have hset : 0 < r.id → r.text.size ≤ 4096 → (∀ p ∈ setP L.posts ⟨r.id, r.ver, r.text⟩, 1 ≤ p.id ∧ p.id ≤ 18446744073709551615) ∧ (∀ p ∈ setP L.posts ⟨r.id, r.ver, r.text⟩, 0 ≤ p.ver ∧ p.ver ≤ 18446744073709551615) ∧ ∀ p ∈ setP L.posts ⟨r.id, r.ver, r.text⟩, p.text.size ≤ 4096 := fun h0 ht => by
      refine ⟨fun p hp => ?_, fun p hp => ?_, fun p hp => ?_⟩
      · rcases mem_setP.1 hp with rfl | ⟨h1, _⟩
        · exact ⟨h0, hr.id.2⟩
        · exact hL.ids p h1
      · rcases mem_setP.1 hp with rfl | ⟨h1, _⟩
        · exact hr.ver
        · exact hL.vers p h1
      · rcases mem_setP.1 hp with rfl | ⟨h1, _⟩
        · exact ht
        · exact hL.texts p h1
    rcases LG.applies_cases ha with ⟨k, h0, h1, h2, h3, h4, h5⟩ | ⟨k, h0, h1⟩ | ⟨k, h0, h1, h2, h3, h4⟩ | ⟨k, h0, h1, h2, h3, s, h4, h5⟩
    · have ea : L.act r = ⟨setP L.posts ⟨r.id, r.ver, r.text⟩, L.pols, L.next + 1, L.cur⟩ := by simp [LG.act, k]
      have h6 := hset h0 h2
      have := hL.next
      rw [ea]
      exact ⟨setP_rise hL.rise _, h6.1, h6.2.1, by simp only; omega, hL.cur, hL.pols, h6.2.2, hL.ptexts⟩
    · have ea : L.act r = ⟨delP L.posts r.id, L.pols, L.next, L.cur⟩ := by simp [LG.act, k]
      rw [ea]
      exact ⟨delP_rise hL.rise _, fun p hp => hL.ids p (mem_delP.1 hp).1, fun p hp => hL.vers p (mem_delP.1 hp).1, hL.next, hL.cur, hL.pols, fun p hp => hL.texts p (mem_delP.1 hp).1, hL.ptexts⟩
    · have ea : L.act r = ⟨L.posts, L.pols ++ [r.text], L.next, 0⟩ := by simp [LG.act, k]
      have hn : L.newest = (L.pols.length : Int) := rfl
      rw [ea]
      refine ⟨hL.rise, hL.ids, hL.vers, hL.next, by simp, by rw [List.length_append, List.length_singleton]; omega, hL.texts, fun s hs => ?_⟩
      rcases List.mem_append.1 hs with g | g
      · exact hL.ptexts s g
      · rw [List.mem_singleton.1 g]; exact h2
    · have ea : L.act r = ⟨setP L.posts ⟨r.id, r.ver, r.text⟩, L.pols, L.next, r.id⟩ := by simp [LG.act, k]
      have h6 := hset h0 h2
      rw [ea]
      exact ⟨setP_rise hL.rise _, h6.1, h6.2.1, hL.next, hr.id, hL.pols, h6.2.2, hL.ptexts⟩
  · exact hL
/-! ### pairs -/
def be : Nat → Nat → List Int
  | 0, _ => []
  | n + 1, x => ((x / 256 ^ n % 256 : Nat) : Int) :: be n x
def valN (ds : List Int) : Nat := ds.foldl (fun a d => a * 256 + d.toNat) 0
theorem be_len : ∀ n x, (be n x).length = n
  | 0, _ => rfl
  | n + 1, x => by simp [be, be_len n x]
theorem be_byte : ∀ n x, ∀ d ∈ be n x, 0 ≤ d ∧ d ≤ 255
  | 0, _, d, h => by simp [be] at h
  | n + 1, x, d, h => by
    rcases List.mem_cons.1 h with rfl | h
    · omega
    · exact be_byte n x d h
theorem foldl_be : ∀ n x a, (be n x).foldl (fun a d => a * 256 + d.toNat) a = a * 256 ^ n + x % 256 ^ n
  | 0, x, a => by simp [be, Nat.mod_one]
  | n + 1, x, a => by
    simp only [be, List.foldl_cons, Int.toNat_natCast]
    rw [foldl_be n x]
    have h1 : x % 256 ^ (n + 1) = x / 256 ^ n % 256 * 256 ^ n + x % 256 ^ n := by
      rw [Nat.pow_succ, Nat.mod_mul, Nat.mul_comm (256 ^ n), Nat.add_comm]
    rw [h1, Nat.add_mul, Nat.pow_succ, Nat.mul_assoc, Nat.mul_comm 256 (256 ^ n), Nat.add_assoc]
theorem valN_be (n x : Nat) (h : x < 256 ^ n) : valN (be n x) = x := by
  unfold valN
  rw [foldl_be, Nat.zero_mul, Nat.zero_add, Nat.mod_eq_of_lt h]
def be8 (n : Int) : List Int := be 8 n.toNat
theorem be8_len (n : Int) : (be8 n).length = 8 := be_len 8 _
theorem be8_val {n : Int} (h : 0 ≤ n ∧ n ≤ 18446744073709551615) : (valN (be8 n) : Int) = n := by
  unfold be8
  rw [valN_be 8 n.toNat (by have : (256 : Nat) ^ 8 = 18446744073709551616 := by decide
                            omega)]
  omega
theorem be8_inj {n m : Int} (hn : 0 ≤ n ∧ n ≤ 18446744073709551615) (hm : 0 ≤ m ∧ m ≤ 18446744073709551615) (h : be8 n = be8 m) : n = m := by
  have := congrArg (fun l => (valN l : Int)) h
  simp only [be8_val hn, be8_val hm] at this
  exact this
/-- a text's bytes as numbers -/
def nums (s : ByteArray) : List Int := s.data.toList.map fun c => (c.toNat : Int)
def postPair (p : LP) : Int × List Int := (p.id, be8 p.ver ++ nums p.text)
def polPairs (j : Nat) : List ByteArray → List (Int × List Int)
  | [] => []
  | s :: r => (9223372036854775808 + (j : Int) + 1, nums s) :: polPairs (j + 1) r
def LG.status (L : LG) : List Int := be8 L.next ++ be8 L.newest ++ be8 L.cur
def LG.pairs (L : LG) : List (Int × List Int) := L.posts.map postPair ++ polPairs 0 L.pols ++ [(18446744073709551615, L.status)]
theorem polPairs_len : ∀ (l : List ByteArray) j, (polPairs j l).length = l.length
  | [], _ => rfl
  | _ :: r, j => by simp [polPairs, polPairs_len r]
theorem LG.pairs_len (L : LG) : L.pairs.length = L.posts.length + L.pols.length + 1 := by simp [LG.pairs, polPairs_len, Nat.add_assoc]
theorem LG.pairs_last (L : LG) : L.pairs.getLast? = some (18446744073709551615, L.status) := by unfold LG.pairs; exact List.getLast?_concat ..
theorem setP_new {l : List LP} {p : LP} (h : ∀ q ∈ l, q.id < p.id) : setP l p = l ++ [p] := by
  unfold setP
  rw [List.filter_eq_self.2 (fun q hq => by simpa using h q hq), List.filter_eq_nil_iff.2 (fun q hq => by have := h q hq; simp; omega)]
theorem setP_len {l : List LP} {p : LP} (h : ∀ q ∈ l, q.id ≠ p.id) : (setP l p).length = l.length + 1 := by
  unfold setP
  rw [List.length_append, List.length_cons]
  have : ∀ l : List LP, (∀ q ∈ l, q.id ≠ p.id) → (l.filter (fun q => decide (q.id < p.id))).length + (l.filter (fun q => decide (p.id < q.id))).length = l.length := by
    intro l
    induction l with
    | nil => intro _; rfl
    | cons a l ih =>
      intro h
      have h1 := ih (fun q hq => h q (List.mem_cons_of_mem _ hq))
      have h2 := h a (List.mem_cons_self ..)
      rcases Int.lt_or_gt_of_ne h2 with h3 | h3
      · rw [List.filter_cons_of_pos (by simpa using h3), List.filter_cons_of_neg (by simp; omega)]
        simp only [List.length_cons]
        omega
      · rw [List.filter_cons_of_neg (by simp; omega), List.filter_cons_of_pos (by simpa using h3)]
        simp only [List.length_cons]
        omega
  have := this l h
  omega
theorem delP_len {l : List LP} {x : Int} (h : l.any (fun p => p.id == x) = true) : (delP l x).length < l.length := by
  unfold delP
  induction l with
  | nil => simp at h
  | cons a l ih =>
    by_cases e : a.id = x
    · rw [List.filter_cons_of_neg (by simp [e])]
      have := List.length_filter_le (fun q : LP => !(q.id == x)) l
      simp only [List.length_cons]
      omega
    · rw [List.filter_cons_of_pos (by simpa using e)]
      simp only [List.any_cons, Bool.or_eq_true, beq_iff_eq] at h
      have := ih (h.resolve_left e)
      simp only [List.length_cons]
      omega
/-! ### as it was -/
/-- posts' numbers lie below the next one, and the stale ones above the cursor -/
structure LG.Below (L : LG) : Prop where
  ids : ∀ p ∈ L.posts, p.id < L.next
theorem LG.empty_below : LG.empty.Below := ⟨by simp [LG.empty]⟩
theorem LG.apply_below {L : LG} (h : L.Below) (r : RC) : (L.apply r).Below := by
  unfold LG.apply
  split
  · next ha =>
    rcases LG.applies_cases ha with ⟨k, h0, h1, h2, h3, h4, h5⟩ | ⟨k, h0, h1⟩ | ⟨k, h0, h1, h2, h3, h4⟩ | ⟨k, h0, h1, h2, h3, s, h4, h5⟩
    · refine ⟨fun p hp => ?_⟩
      simp only [LG.act, k, if_true] at hp ⊢
      rcases mem_setP.1 hp with rfl | ⟨g, _⟩
      · simp only; omega
      · have := h.ids p g; omega
    · refine ⟨fun p hp => ?_⟩
      simp only [LG.act, k] at hp ⊢
      simp at hp ⊢
      exact h.ids p (mem_delP.1 hp).1
    · refine ⟨fun p hp => ?_⟩
      simp only [LG.act, k] at hp ⊢
      simp at hp ⊢
      exact h.ids p hp
    · refine ⟨fun p hp => ?_⟩
      simp only [LG.act, k] at hp ⊢
      simp at hp ⊢
      rcases mem_setP.1 hp with rfl | ⟨g, _⟩
      · have := h.ids s (LG.stale_mem h4).1; simp only; omega
      · exact h.ids p g
  · exact h
/-- AS IT WAS: what has been applied is not applied a second time, and the pairs have changed. -/
theorem LG.stays {L : LG} (hL : L.Ok) (hb : L.Below) {r : RC} (hr : r.Wf) (h : L.applies r = true) : (L.apply r).applies r = false ∧ L.pairs ≠ (L.apply r).pairs := by
  have e : L.apply r = L.act r := by unfold LG.apply; rw [if_pos h]
  have hok := LG.apply_ok hL hr
  rw [e] at hok ⊢
  have len : ∀ M : LG, M.posts.length + M.pols.length ≠ L.posts.length + L.pols.length → L.pairs ≠ M.pairs := fun M hne he => by
    have := congrArg List.length he
    rw [LG.pairs_len, LG.pairs_len] at this
    omega
  rcases LG.applies_cases h with ⟨k, h0, h1, h2, h3, h4, h5⟩ | ⟨k, h0, h1⟩ | ⟨k, h0, h1, h2, h3, h4⟩ | ⟨k, h0, h1, h2, h3, s, h4, h5⟩
  · have ea : L.act r = ⟨setP L.posts ⟨r.id, r.ver, r.text⟩, L.pols, L.next + 1, L.cur⟩ := by simp [LG.act, k]
    rw [ea]
    refine ⟨?_, len _ ?_⟩
    · cases hx : LG.applies _ r
      · rfl
      · rcases LG.applies_cases hx with ⟨_, _, _, _, g, _⟩ | ⟨g, _⟩ | ⟨g, _⟩ | ⟨g, _⟩
        · simp only at g; omega
        all_goals omega
    · simp only
      rw [setP_len (fun q hq => by have := hb.ids q hq; simp only; omega)]
      omega
  · have ea : L.act r = ⟨delP L.posts r.id, L.pols, L.next, L.cur⟩ := by simp [LG.act, k]
    rw [ea]
    refine ⟨?_, len _ ?_⟩
    · cases hx : LG.applies _ r
      · rfl
      · rcases LG.applies_cases hx with ⟨g, _⟩ | ⟨_, _, g⟩ | ⟨g, _⟩ | ⟨g, _⟩
        · omega
        · simp only at g
          obtain ⟨p, hp, hid⟩ := (any_mem _ _).1 g
          exact absurd hid (mem_delP.1 hp).2
        all_goals omega
    · have := delP_len h1
      simp only
      omega
  · have ea : L.act r = ⟨L.posts, L.pols ++ [r.text], L.next, 0⟩ := by simp [LG.act, k]
    rw [ea]
    refine ⟨?_, len _ ?_⟩
    · cases hx : LG.applies _ r
      · rfl
      · rcases LG.applies_cases hx with ⟨g, _⟩ | ⟨g, _⟩ | ⟨_, _, _, _, g, _⟩ | ⟨g, _⟩
        · omega
        · omega
        · simp only [LG.newest, List.length_append, List.length_cons, List.length_nil] at g h3
          omega
        · omega
    · simp
  · have ea : L.act r = ⟨setP L.posts ⟨r.id, r.ver, r.text⟩, L.pols, L.next, r.id⟩ := by simp [LG.act, k]
    rw [ea] at hok ⊢
    have hs := LG.stale_mem h4
    refine ⟨?_, fun he => ?_⟩
    · cases hx : LG.applies _ r
      · rfl
      · rcases LG.applies_cases hx with ⟨g, _⟩ | ⟨g, _⟩ | ⟨g, _⟩ | ⟨_, _, _, _, _, s', g1, g2⟩
        · omega
        · omega
        · omega
        · have := (LG.stale_mem g1).2.2
          simp only at this
          omega
    · have h6 := congrArg List.getLast? he
      rw [LG.pairs_last, LG.pairs_last] at h6
      simp only [Option.some.injEq, Prod.mk.injEq, true_and, LG.status, LG.newest] at h6
      have h7 := (List.append_inj' h6 (by rw [be8_len, be8_len])).2
      have := be8_inj hL.cur hok.cur h7
      simp only at this
      omega
end Go.Proofs.Ytjfkenjmjoncbaa.Lg
