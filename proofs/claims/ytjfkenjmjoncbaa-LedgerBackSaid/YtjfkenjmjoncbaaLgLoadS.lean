import Derived.Test.YtjfkenjmjoncbaaPAllx0
import Derived.Test.YtjfkenjmjoncbaaLgLoad0
import Derived.Test.YtjfkenjmjoncbaaLgGood
namespace Go.Proofs.Ytjfkenjmjoncbaa.Lg
open Go Go.Maps Go.WideShapes Go.RowKit Go.Proofs.Ytjfkenjmjoncbaa.PAll Go.Proofs.YtjfkenjmjoncbaaW.PrintWords Go.Proofs.YtjfkenjmjoncbaaW.PrintLast Go.Proofs.YtjfkenjmjoncbaaW.PrintMore

/-! ### Load: what it comes to -/
def nextOf (s : S52) : Int := ((valN (s.f1.take 8) : Nat) : Int)
def newestOf (s : S52) : Int := ((valN ((s.f1.take 16).drop 8) : Nat) : Int)
def curOf (s : S52) : Int := ((valN (s.f1.drop 16) : Nat) : Int)
def numsOk (s : S52) : Prop := ¬ nextOf s = 0 ∧ nextOf s < 9223372036854775808 ∧ newestOf s ≤ 100 ∧ curOf s < nextOf s
instance (s : S52) : Decidable (numsOk s) := by unfold numsOk; infer_instance
def prevOk (prev : Option Int) (k : Int) : Bool := match prev with | none => true | some q => decide (q < k)
def loadLoop (nw : Int) : List S52 → Option Int → LG → Option LG
  | [], _, L => some L
  | p :: r, prev, L => if prevOk prev p.f0 = true then if ldOk L p.f0 p.f1 nw = true then loadLoop nw r (some p.f0) (ldL L p.f0 p.f1) else none else none
def head0 (s : S52) : LG := ⟨[], [], nextOf s, curOf s⟩
def loadS (ps : List S52) : Option LG :=
  match ps.getLast? with
  | none => some LG.empty
  | some s => if s.f0 = 18446744073709551615 ∧ s.f1.length = 24 then if numsOk s then
      match loadLoop (newestOf s) ps.dropLast none (head0 s) with
      | some L => if L.newest = newestOf s then some L else none
      | none => none
    else none else none
/-- what a step keeps -/
theorem ldL_newest {L : LG} {k : Int} {bs : List Int} {nw : Int} (hn : L.newest ≤ nw) (ho : ldOk L k bs nw = true) : (ldL L k bs).newest ≤ nw := by
  unfold ldOk at ho
  unfold ldL
  split at ho
  · next hi =>
    rw [if_pos hi]
    simp only [Bool.and_eq_true, decide_eq_true_eq] at ho
    simp only [LG.newest, List.length_append, List.length_singleton] at hn ho ⊢
    omega
  · next hi =>
    rw [if_neg hi]
    exact hn
theorem str_text (s : ByteArray) : strOfNums (bytesOf s) = s := by
  have h := bytesOf_str (bytesOf s) (bytes_text s)
  have hd : (strOfNums (bytesOf s)).data.toList = s.data.toList := by
    have h2 := h
    unfold bytesOf at h2
    have inj : Function.Injective (fun b : UInt8 => (b.toNat : Int)) := fun a b hab => by
      have hab' : ((a.toNat : Nat) : Int) = ((b.toNat : Nat) : Int) := hab
      have : a.toNat = b.toNat := by omega
      exact UInt8.toNat_inj.1 this
    exact (List.map_inj_right (fun a b hab => inj hab)).1 h2
  cases hs : strOfNums (bytesOf s)
  cases s
  rw [hs] at hd
  simp only at hd
  rw [ByteArray.mk.injEq]
  exact Array.ext' hd
theorem ver_post (p : LP) (h : 0 ≤ p.ver ∧ p.ver ≤ 18446744073709551615) : verOf (postS p).f1 = p.ver ∧ strOfNums ((postS p).f1.drop 8) = p.text := by
  unfold verOf postS
  simp only
  rw [List.take_left' (be8_len _), List.drop_left' (be8_len _), str_text]
  exact ⟨be8_val h, rfl⟩
theorem status_nums {L : LG} (h : L.Good) : nextOf ⟨18446744073709551615, L.status⟩ = L.next ∧ newestOf ⟨18446744073709551615, L.status⟩ = L.newest ∧ curOf ⟨18446744073709551615, L.status⟩ = L.cur ∧ L.status.length = 24 := by
  have hp := h.ok.pols
  have hn : L.newest = (L.pols.length : Int) := rfl
  unfold nextOf newestOf curOf LG.status
  simp only
  have l1 := be8_len L.next
  have l2 := be8_len L.newest
  have l3 := be8_len L.cur
  refine ⟨?_, ?_, ?_, by simp [l1, l2, l3]⟩
  · rw [List.append_assoc, List.take_left' l1]; exact be8_val h.ok.next
  · rw [List.take_left' (by simp [l1, l2]), List.drop_left' l1]; exact be8_val (by omega)
  · rw [List.drop_left' (by simp [l1, l2])]; exact be8_val h.ok.cur
theorem load_posts {L : LG} (h : L.Good) (rest : List S52) : ∀ (b a : List LP) (prev : Option Int), L.posts = a ++ b → (∀ q, prev = some q → ∀ p ∈ b, q < p.id) →
    ∃ pr, loadLoop L.newest (b.map postS ++ rest) prev ⟨a, [], L.next, L.cur⟩ = loadLoop L.newest rest pr ⟨L.posts, [], L.next, L.cur⟩ ∧ (∀ q, pr = some q → prev = some q ∨ q < 9223372036854775808)
  | [], a, prev, e, _ => ⟨prev, by rw [e]; simp, fun q hq => .inl hq⟩
  | p :: b, a, prev, e, hp => by
    have hm : p ∈ L.posts := by rw [e]; simp
    have hid := h.ids p hm
    have hid1 := h.ok.ids p hm
    have hv := h.vers p hm
    have ho := h.old p hm
    have ht := h.ok.texts p hm
    have hnx := h.next
    obtain ⟨v1, v2⟩ := ver_post p (h.ok.vers p hm)
    have hl : (postS p).f1.length = 8 + p.text.size := by unfold postS; rw [List.length_append, be8_len, bytesOf_length]
    have hr := h.ok.rise
    rw [e] at hr
    have hlast : ∀ x ∈ a, x.id < p.id := fun x hx => (List.pairwise_append.1 hr).2.2 x hx p (List.mem_cons_self ..)
    have hnext : ∀ x ∈ b, p.id < x.id := fun x hx => (List.pairwise_cons.1 (List.pairwise_append.1 hr).2.1).1 x hx
    have c1 : prevOk prev (postS p).f0 = true := by
      cases prev with
      | none => rfl
      | some q => exact decide_eq_true (hp q rfl p (List.mem_cons_self ..))
    have c2 : ldOk ⟨a, [], L.next, L.cur⟩ (postS p).f0 (postS p).f1 L.newest = true := by
      unfold ldOk
      rw [if_neg (show ¬ 9223372036854775808 ≤ (postS p).f0 by show ¬ 9223372036854775808 ≤ p.id; omega), v1, hl]
      simp only [Bool.and_eq_true, Bool.or_eq_true, decide_eq_true_eq]
      refine ⟨⟨⟨⟨?_, ?_⟩, ?_⟩, ?_⟩, ⟨?_, ?_⟩, ?_⟩
      · show p.id ≠ 0; omega
      · exact hid
      · omega
      · omega
      · omega
      · omega
      · exact ho
    have c3 : ldL ⟨a, [], L.next, L.cur⟩ (postS p).f0 (postS p).f1 = ⟨a ++ [p], [], L.next, L.cur⟩ := by
      unfold ldL
      rw [if_neg (show ¬ 9223372036854775808 ≤ (postS p).f0 by show ¬ 9223372036854775808 ≤ p.id; omega), v1, v2]
      show (⟨setP a ⟨p.id, p.ver, p.text⟩, [], L.next, L.cur⟩ : LG) = _
      rw [setP_new (p := ⟨p.id, p.ver, p.text⟩) hlast]
    obtain ⟨pr, h1, h2⟩ := load_posts h rest b (a ++ [p]) (some p.id) (by rw [e]; simp) (fun q hq x hx => by cases hq; exact hnext x hx)
    refine ⟨pr, ?_, fun q hq => ?_⟩
    · rw [List.map_cons, List.cons_append, loadLoop, if_pos c1, if_pos c2, c3]
      exact h1
    · rcases h2 q hq with h3 | h3
      · cases h3; right; omega
      · right; exact h3
theorem load_pols {L : LG} (h : L.Good) : ∀ (d j : Nat) (prev : Option Int), j + d = L.pols.length → (∀ q, prev = some q → q < 9223372036854775808 + (j : Int) + 1) →
    loadLoop L.newest ((polsS L.pols).drop j) prev ⟨L.posts, L.pols.take j, L.next, L.cur⟩ = some L
  | 0, j, prev, e, _ => by
    rw [List.drop_eq_nil_of_le (by simp [polsS]; omega), loadLoop, List.take_of_length_le (by omega)]
  | d + 1, j, prev, e, hp => by
    have hj : j < L.pols.length := by omega
    have hjl : j < (polsS L.pols).length := by simpa [polsS] using hj
    have hs : (polsS L.pols)[j] = polS j L.pols[j] := by
      simp only [polsS, List.getElem_map, List.getElem_range]
      unfold rdOf
      simp [hj]
    have hpl := h.ok.pols
    have hsz := h.ok.ptexts _ (List.getElem_mem hj)
    have hl : (L.pols.take j).length = j := by rw [List.length_take]; omega
    have c1 : prevOk prev (polS j L.pols[j]).f0 = true := by
      cases prev with
      | none => rfl
      | some q => exact decide_eq_true (hp q rfl)
    have c2 : ldOk ⟨L.posts, L.pols.take j, L.next, L.cur⟩ (polS j L.pols[j]).f0 (polS j L.pols[j]).f1 L.newest = true := by
      unfold ldOk polS
      simp only
      rw [if_pos (by omega), bytesOf_length]
      simp only [LG.newest, hl, Bool.and_eq_true, decide_eq_true_eq]
      exact ⟨⟨by trivial, by omega⟩, hsz⟩
    have c3 : ldL ⟨L.posts, L.pols.take j, L.next, L.cur⟩ (polS j L.pols[j]).f0 (polS j L.pols[j]).f1 = ⟨L.posts, L.pols.take (j + 1), L.next, L.cur⟩ := by
      unfold ldL polS
      simp only
      rw [if_pos (by omega), str_text, List.take_add_one, List.getElem?_eq_getElem hj]
      rfl
    rw [List.drop_eq_getElem_cons hjl, hs, loadLoop, if_pos c1, if_pos c2, c3]
    exact load_pols h d (j + 1) _ (by omega) (fun q hq => by cases hq; show 9223372036854775808 + (j : Int) + 1 < _; omega)
/-- THERE AND BACK: what a ledger is as pairs is loaded as it was. -/
theorem load_back {L : LG} (h : L.Good) : loadS L.pairsS = some L := by
  obtain ⟨s1, s2, s3, s4⟩ := status_nums h
  have hl : L.pairsS.getLast? = some ⟨18446744073709551615, L.status⟩ := by unfold LG.pairsS; exact List.getLast?_concat ..
  have hd : L.pairsS.dropLast = L.posts.map postS ++ polsS L.pols := by unfold LG.pairsS; exact List.dropLast_concat ..
  have hn := h.next
  have hc := h.cur
  have hp := h.ok.pols
  have hnn : L.newest = (L.pols.length : Int) := rfl
  unfold loadS
  rw [hl]
  simp only
  rw [if_pos ⟨by trivial, s4⟩, if_pos ⟨by rw [s1]; omega, by rw [s1]; omega, by rw [s2]; omega, by rw [s1, s3]; exact hc⟩, s2, hd]
  have e0 : head0 ⟨18446744073709551615, L.status⟩ = ⟨[], [], L.next, L.cur⟩ := by unfold head0; rw [s1, s3]
  obtain ⟨pr, h1, h2⟩ := load_posts h (polsS L.pols) L.posts [] none rfl (fun q hq => by cases hq)
  have h3 := load_pols h L.pols.length 0 pr (by omega) (fun q hq => by
    rcases h2 q hq with h4 | h4
    · cases h4
    · omega)
  rw [List.drop_zero, List.take_zero] at h3
  rw [e0, h1, h3]
  simp
end Go.Proofs.Ytjfkenjmjoncbaa.Lg
