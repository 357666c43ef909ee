import Derived.Test.YtjfkenjmjoncbaaPAllx0
import Derived.ProofKit
import Derived.OpenShut
import Derived.Lib.SmallJoins
import Derived.Deep.Slices
namespace Go.Proofs.Ytjfkenjmjoncbaa.RowOpen
open Go.RowKit Go.Proofs.YtjfkenjmjoncbaaW.PrintWords

/-! What reads as data of a type is of a kind: the way from a row's argument to the printed contracts. -/
section
variable {P : Program}
/-- Whatever reads as data of type t is of the kind d, and has g. -/
def Opens (P : Program) {α : Type} (t : TypeId) (d : Kd α) (g : α → Prop) : Prop :=
  ∀ (H : Type) (enc : TypeId × Value → H) (fuel : Nat) (w : World) (cs : List Value) (x : DataW H × List MemPlace), DataW.trod enc P w 0 (fun _ => true) true fuel t cs = some x → ∃ a, d.K w a cs ∧ g a
theorem Opens.imp {α : Type} {t : TypeId} {d : Kd α} {g g' : α → Prop} (h : Opens P t d g) (hg : ∀ a, g a → g' a) : Opens P t d g' := fun H enc fuel w cs x hx => by
  obtain ⟨a, hK, ha⟩ := h H enc fuel w cs x hx
  exact ⟨a, hK, hg a ha⟩
theorem opens_int {t : TypeId} {k : IntKind} (hu : P.underlying t = some (.int k)) : Opens P t (Kd.int k) (fun n => (Lit.int k n).wf = true) := fun H enc fuel w cs x hx => by
  cases fuel with
  | zero => simp [DataW.trod] at hx
  | succ m =>
    unfold DataW.trod at hx
    rw [hu] at hx
    split at hx <;> simp_all
    obtain ⟨⟨rfl, hw⟩, _⟩ := hx
    exact ⟨_, rfl, hw⟩
theorem opens_bool {t : TypeId} (hu : P.underlying t = some .bool) : Opens P t Kd.bool (fun _ => True) := fun H enc fuel w cs x hx => by
  cases fuel with
  | zero => simp [DataW.trod] at hx
  | succ m =>
    unfold DataW.trod at hx
    rw [hu] at hx
    split at hx <;> simp_all
    first | exact .inl rfl | exact .inr rfl | skip
    all_goals (rename_i b; cases b <;> first | exact .inl rfl | exact .inr rfl)
theorem opens_string {t : TypeId} (hu : P.underlying t = some .string) : Opens P t Kd.string (fun s => s.size ≤ maxLen) := fun H enc fuel w cs x hx => by
  cases fuel with
  | zero => simp [DataW.trod] at hx
  | succ m =>
    unfold DataW.trod at hx
    rw [hu] at hx
    split at hx <;> simp_all
    exact ⟨_, rfl, hx.1⟩
theorem cells_get {w : World} {a : Addr} {n : Nat} {cs : List Value} (h : w.cells? 0 a n = some cs) : cs.length = n ∧ ∀ j u, cs[j]? = some u → w.cell? (a.add j) = some u := by
  unfold World.cells? at h
  rw [if_pos (Nat.zero_le _)] at h
  have hl := mapM_some_length h
  rw [List.length_range] at hl
  refine ⟨hl, fun j u hj => ?_⟩
  have hlt : j < cs.length := (List.getElem?_eq_some_iff.1 hj).1
  have := mapM_some_get h j j (by rw [List.getElem?_range (by omega)])
  rw [this, hj]
theorem list_of {α : Type} {p : Nat → α → Prop} : ∀ n : Nat, (∀ i, i < n → ∃ a, p i a) → ∃ xs : List α, xs.length = n ∧ ∀ i a, xs[i]? = some a → p i a
  | 0, _ => ⟨[], rfl, fun i a h => by simp at h⟩
  | n + 1, h => by
    obtain ⟨xs, hl, hx⟩ := list_of n (fun i hi => h i (by omega))
    obtain ⟨a, ha⟩ := h n (by omega)
    refine ⟨xs ++ [a], by simp [hl], fun i b hb => ?_⟩
    rcases Nat.lt_trichotomy i n with hi | hi | hi
    · rw [List.getElem?_append_left (by omega)] at hb
      exact hx i b hb
    · subst hi
      rw [List.getElem?_append_right (by omega), hl, Nat.sub_self] at hb
      simp at hb
      subst hb
      exact ha
    · rw [List.getElem?_eq_none (by simp; omega)] at hb
      cases hb
theorem opens_slice {α : Type} {t e : TypeId} {d : Kd α} {g : α → Prop} (hu : P.underlying t = some (.slice e)) (hsz : P.cellsOf e = d.sz) (h : Opens P e d g) :
    Opens P t (Kd.slice e d) (fun xs => xs.length ≤ maxLen ∧ ∀ x ∈ xs, g x) := fun H enc fuel w cs x hx => by
  rcases Go.Deep.open_slice hu hx with ⟨rfl, _⟩ | ⟨a, len, cap, m, n, D, Pl, rfl, _, hl, hm, hmm, _, hel⟩
  · exact ⟨[], ⟨none, 0, rfl, Nat.le_refl _, rfl, by simp, fun h => absurd h (by simp)⟩, by simp, by simp⟩
  · rw [if_pos rfl] at hmm
    subst hmm
    obtain ⟨xs, hxl, hxs⟩ := list_of (p := fun i y => ∃ c, w.cells? 0 (a.add (i * d.sz)) d.sz = some c ∧ d.K w y c ∧ g y) len (fun i hi => by
      obtain ⟨c, hc, ht⟩ := hel i (by omega)
      rw [hsz] at hc
      obtain ⟨y, hK, hg⟩ := h H enc n w c _ ht
      exact ⟨y, c, hc, hK, hg⟩)
    subst hxl
    refine ⟨xs, ⟨some a, m, rfl, hl, rfl, ?_, fun _ => ⟨a, rfl, fun j p hp => ?_⟩⟩, by omega, fun y hy => ?_⟩
    · unfold maxLen at hm; omega
    · obtain ⟨c, hc, hK, _⟩ := hxs j p hp
      obtain ⟨hcl, hcg⟩ := cells_get hc
      exact ⟨c, hcl, hK, fun i u hu' => by rw [← Addr.add_add]; exact hcg i u hu'⟩
    · obtain ⟨j, hj⟩ := List.getElem?_of_mem hy
      obtain ⟨c, _, _, hg⟩ := hxs j y hj
      exact hg
/-- Fields, one behind the other, from an offset on. -/
def OpensF (P : Program) {α : Type} (fs : List Field) (d : Kd α) (g : α → Prop) (off : Nat) : Prop :=
  ∀ (H : Type) (enc : TypeId × Value → H) (fuel : Nat) (w : World) (cs : List Value) (xs : List (DataW H × List MemPlace)), cs.length = off + d.sz →
    (∀ (i : Nat) (f : Field), fs[i]? = some f → DataW.trod enc P w 0 (fun _ => true) true fuel f.type ((cs.drop f.offset).take (P.cellsOf f.type)) = xs[i]?) → xs.length = fs.length → ∃ a, d.K w a (cs.drop off) ∧ g a
theorem opensF_one {α : Type} {f : Field} {d : Kd α} {g : α → Prop} {off : Nat} (ho : f.offset = off) (hsz : P.cellsOf f.type = d.sz) (h : Opens P f.type d g) : OpensF P [f] d g off := fun H enc fuel w cs xs hl hx hn => by
  have h0 := hx 0 f rfl
  match xs, hn with
  | [x], _ =>
    rw [ho, hsz, List.take_of_length_le (by rw [List.length_drop]; omega)] at h0
    exact h H enc fuel w _ x h0
theorem opensF_cons {α β : Type} {f : Field} {fs : List Field} {d : Kd α} {d' : Kd β} {g : α → Prop} {g' : β → Prop} {off : Nat} (ho : f.offset = off) (hsz : P.cellsOf f.type = d.sz) (h : Opens P f.type d g) (hf : OpensF P fs d' g' (off + d.sz)) :
    OpensF P (f :: fs) (Kd.pair d d') (fun x => g x.1 ∧ g' x.2) off := fun H enc fuel w cs xs hl hx hn => by
  match xs, hn with
  | x :: xs, hn =>
    have h0 := hx 0 f rfl
    rw [ho, hsz] at h0
    obtain ⟨a, hK, hg⟩ := h H enc fuel w _ x h0
    have hl' : cs.length = off + (d.sz + d'.sz) := hl
    obtain ⟨b, hK', hg'⟩ := hf H enc fuel w cs xs (by omega) (fun i q hq => hx (i + 1) q hq) (by simpa using hn)
    refine ⟨(a, b), ⟨(cs.drop off).take d.sz, cs.drop (off + d.sz), ?_, hK, hK'⟩, hg, hg'⟩
    rw [← List.drop_drop, List.take_append_drop]
theorem opens_struct {α : Type} {t : TypeId} {fs : Array Field} {d : Kd α} {g : α → Prop} (hu : P.underlying t = some (.struct fs)) (hsz : P.cellsOf t = d.sz) (hf : OpensF P fs.toList d g 0) : Opens P t d g := fun H enc fuel w cs x hx => by
  obtain ⟨xs, m, rfl, _, hl, hlen, hel⟩ := DataW.trod_struct hu hx
  obtain ⟨a, hK, hg⟩ := hf H enc m w cs xs (by omega) (fun i f hi => hel i f (by rw [← Array.getElem?_toList]; exact hi)) (by simpa using hlen)
  exact ⟨a, hK, hg⟩
theorem opens_iso {α β : Type} {t : TypeId} {d : Kd α} {g : α → Prop} {f : β → α} (inv : α → β) (hi : ∀ x, f (inv x) = x) (h : Opens P t d g) : Opens P t (Kd.iso d f) (fun y => g (f y)) := fun H enc fuel w cs x hx => by
  obtain ⟨a, hK, hg⟩ := h H enc fuel w cs x hx
  refine ⟨inv a, ?_, by show g (f (inv a)); rw [hi]; exact hg⟩
  show d.K w (f (inv a)) cs
  rw [hi]
  exact hK
end
end Go.Proofs.Ytjfkenjmjoncbaa.RowOpen
