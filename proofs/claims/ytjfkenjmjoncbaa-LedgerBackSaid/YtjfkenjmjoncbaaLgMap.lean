import Derived.Test.YtjfkenjmjoncbaaPAllx0
import Derived.Maps.Ext
import Derived.Maps.RangeWalk
namespace Go.Proofs.Ytjfkenjmjoncbaa.Lg
open Go Go.Maps Go.WideShapes

/-! A ledger's posts as a map that is read: a list whose ids rise. -/
structure LP where
  id : Int
  ver : Int
  text : ByteArray
def zeroP : LP := ⟨0, 0, ByteArray.empty⟩
abbrev DW := DataW Unit
def pd (p : LP) : DW := .agg [.lit (.int .u64 p.id), .lit (.int .u64 p.ver), .lit (.string p.text.data.toList)]
def postV (p : LP) : Value := .agg #[.int .u64 p.id, .int .u64 p.ver, .string p.text]
def postR (v : Value) : Option (DW × List MemPlace) :=
  match v with
  | .agg xs => match xs.toList with
    | [.int k a, .int k' b, .string s] => if k = .u64 ∧ k' = .u64 then some (pd ⟨a, b, s⟩, []) else none
    | _ => none
  | _ => none
theorem postR_mk (p : LP) : postR (postV p) = some (pd p, []) := rfl
theorem postR_inv (v : Value) (y : DW × List MemPlace) (h : postR v = some y) : ∃ p, v = postV p := by
  unfold postR at h
  split at h
  · next xs =>
    split at h
    · next k a k' b s e =>
      split at h
      · next hk =>
        obtain ⟨rfl, rfl⟩ := hk
        exact ⟨⟨a, b, s⟩, by unfold postV; congr 1; exact Array.ext' (by simpa using e)⟩
      · cases h
    · cases h
  · cases h
theorem pd_inj {p q : LP} (h : pd p = pd q) : p = q := by
  obtain ⟨a, b, s⟩ := p
  obtain ⟨a', b', s'⟩ := q
  unfold pd at h
  injection h with h
  simp only [List.cons.injEq, DataW.lit.injEq, Lit.int.injEq, Lit.string.injEq, true_and, and_true] at h
  obtain ⟨rfl, rfl, h3⟩ := h
  have : s = s' := by
    cases s; cases s'
    simp at h3
    rw [h3]
  rw [this]
def mapD (l : List LP) : DW := .map (l.map fun p => (.int .u64 p.id, pd p))
/-- ids rise -/
def Rise (l : List LP) : Prop := l.Pairwise (fun p q => p.id < q.id)
theorem mapD_canon {l : List LP} (h : Rise l) : Canon (mapD l) := by
  refine ⟨_, rfl, ?_, ?_⟩
  · refine List.pairwise_map.2 (h.imp fun {a b} hab => ?_)
    simpa [Lit.before] using hab
  · intro p hp
    obtain ⟨q, _, rfl⟩ := List.mem_map.1 hp
    trivial
theorem same_u64 (a b : Int) : (Lit.int .u64 a).sameKey (.int .u64 b) = decide (a = b) := by simp [Lit.sameKey]
theorem mapD_has (l : List LP) (x : Int) : has (mapD l) (.int .u64 x) = l.any (fun p => p.id == x) := by
  show (l.map fun p => ((Lit.int .u64 p.id, pd p) : Lit × DW)).any (fun p => p.1.sameKey (.int .u64 x)) = _
  rw [List.any_map]
  congr 1
  funext p
  exact same_u64 _ _
theorem mapD_has_other (l : List LP) (k : Lit) (h : ∀ x, k ≠ .int .u64 x) : has (mapD l) k = false := by
  show (l.map fun p => ((Lit.int .u64 p.id, pd p) : Lit × DW)).any (fun p => p.1.sameKey k) = _
  rw [List.any_map, List.any_eq_false]
  intro p _ hs
  exact h p.id (WideAt.sameKey_eq hs).symm
theorem mapD_size (l : List LP) : size (mapD l) = l.length := by
  show (l.map fun p => ((Lit.int .u64 p.id, pd p) : Lit × DW)).length = _
  simp
theorem mapD_at (l : List LP) (x : Int) (z : DW) : (mapD l).atKey (.int .u64 x) z = ((l.find? (fun p => p.id == x)).map pd).getD z := by
  unfold mapD DataW.atKey
  dsimp only
  rw [List.find?_map]
  have : ((fun p : Lit × DW => p.1.sameKey (.int .u64 x)) ∘ fun p : LP => ((Lit.int .u64 p.id, pd p) : Lit × DW)) = fun p => p.id == x := by
    funext p
    exact same_u64 _ _
  rw [this]
  cases l.find? (fun p => p.id == x) <;> rfl
/-- in a list whose ids rise an id stands once -/
theorem Rise.find {l : List LP} (h : Rise l) {p : LP} (hp : p ∈ l) : l.find? (fun q => q.id == p.id) = some p := by
  induction l with
  | nil => cases hp
  | cons a l ih =>
    obtain ⟨h1, h2⟩ := List.pairwise_cons.1 h
    rcases List.mem_cons.1 hp with rfl | hp'
    · simp
    · have := h1 p hp'
      rw [List.find?_cons_of_neg (by simp; omega)]
      exact ih h2 hp'
theorem Rise.uniq {l : List LP} (h : Rise l) {p q : LP} (hp : p ∈ l) (hq : q ∈ l) (e : p.id = q.id) : p = q := by
  have h1 := h.find hp
  rw [e, h.find hq] at h1
  exact (Option.some.inj h1).symm
theorem Rise.filter {l : List LP} (h : Rise l) (f : LP → Bool) : Rise (l.filter f) := List.Pairwise.filter f h
/-- a post is laid at its id -/
def setP (l : List LP) (p : LP) : List LP := l.filter (fun q => decide (q.id < p.id)) ++ p :: l.filter (fun q => decide (p.id < q.id))
def delP (l : List LP) (x : Int) : List LP := l.filter (fun q => !(q.id == x))
theorem setP_rise {l : List LP} (h : Rise l) (p : LP) : Rise (setP l p) := by
  refine List.pairwise_append.2 ⟨h.filter _, List.pairwise_cons.2 ⟨fun q hq => by simpa using (List.mem_filter.1 hq).2, h.filter _⟩, fun a ha b hb => ?_⟩
  have h1 : a.id < p.id := by simpa using (List.mem_filter.1 ha).2
  rcases List.mem_cons.1 hb with rfl | hb
  · exact h1
  · have h2 : p.id < b.id := by simpa using (List.mem_filter.1 hb).2
    omega
theorem mem_setP {l : List LP} {p q : LP} : q ∈ setP l p ↔ q = p ∨ (q ∈ l ∧ q.id ≠ p.id) := by
  unfold setP
  simp only [List.mem_append, List.mem_cons, List.mem_filter, decide_eq_true_eq]
  constructor
  · rintro (⟨h1, h2⟩ | rfl | ⟨h1, h2⟩)
    · exact .inr ⟨h1, by omega⟩
    · exact .inl rfl
    · exact .inr ⟨h1, by omega⟩
  · rintro (rfl | ⟨h1, h2⟩)
    · exact .inr (.inl rfl)
    · rcases Int.lt_or_gt_of_ne h2 with h | h
      · exact .inl ⟨h1, h⟩
      · exact .inr (.inr ⟨h1, h⟩)
theorem delP_rise {l : List LP} (h : Rise l) (x : Int) : Rise (delP l x) := h.filter _
theorem mem_delP {l : List LP} {x : Int} {q : LP} : q ∈ delP l x ↔ q ∈ l ∧ q.id ≠ x := by simp [delP]
theorem any_mem (l : List LP) (x : Int) : l.any (fun p => p.id == x) = true ↔ ∃ p ∈ l, p.id = x := by simp [List.any_eq_true]
/-- a map that is read, and what it holds at each key -/
theorem eq_mapD {D : DW} {l : List LP} (hD : Canon D) (hl : Rise l) (h1 : ∀ x p, D.atKey (.int .u64 x) .nil = pd p → has D (.int .u64 x) = true → p ∈ l ∧ p.id = x)
    (h2 : ∀ p ∈ l, has D (.int .u64 p.id) = true ∧ D.atKey (.int .u64 p.id) .nil = pd p) (h3 : ∀ k, has D k = true → ∃ x p, k = .int .u64 x ∧ D.atKey k .nil = pd p) : D = mapD l := by
  have hh : ∀ k, has D k = has (mapD l) k := by
    intro k
    cases hk : has D k
    · by_cases hx : ∃ x, k = .int .u64 x
      · obtain ⟨x, rfl⟩ := hx
        rw [mapD_has]
        cases ha : l.any (fun p => p.id == x)
        · rfl
        · obtain ⟨p, hp, rfl⟩ := (any_mem _ _).1 ha
          rw [(h2 p hp).1] at hk
          cases hk
      · rw [mapD_has_other l k (fun x e => hx ⟨x, e⟩)]
    · obtain ⟨x, p, rfl, hp⟩ := h3 k hk
      obtain ⟨h4, h5⟩ := h1 x p hp hk
      rw [mapD_has]
      exact ((any_mem _ _).2 ⟨p, h4, h5⟩).symm
  refine Maps.ext hD (mapD_canon hl) hh (fun k z hk => ?_)
  obtain ⟨x, p, rfl, hp⟩ := h3 k hk
  obtain ⟨h4, rfl⟩ := h1 x p hp hk
  have e1 : D.atKey (.int .u64 p.id) z = D.atKey (.int .u64 p.id) .nil := by
    cases D <;> try (cases hk; done)
    rename_i es
    obtain ⟨q, hq, hqk⟩ := List.any_eq_true.1 hk
    have hs : (es.find? (fun q => q.1.sameKey (.int .u64 p.id))).isSome = true := List.find?_isSome.2 ⟨q, hq, hqk⟩
    obtain ⟨y, hy⟩ := Option.isSome_iff_exists.1 hs
    simp [DataW.atKey, hy]
  rw [e1, hp, mapD_at, hl.find h4]
  rfl
theorem mapD_isMap (l : List LP) : IsMap (mapD l) := ⟨_, rfl⟩
theorem put_eq {l : List LP} (h : Rise l) (p : LP) {x : Int} (hx : p.id = x) (hc : Canon ((mapD l).put (.int .u64 x) (pd p))) : (mapD l).put (.int .u64 x) (pd p) = mapD (setP l p) := by
  subst hx
  have ht : WideAt.IsKeyLit (.int .u64 p.id) := trivial
  have main : ∀ k, has ((mapD l).put (.int .u64 p.id) (pd p)) k = true → ∃ q ∈ setP l p, k = .int .u64 q.id ∧ ((mapD l).put (.int .u64 p.id) (pd p)).atKey k .nil = pd q := by
    intro k hk
    by_cases e : k = .int .u64 p.id
    · subst e
      exact ⟨p, mem_setP.2 (.inl rfl), rfl, atKey_put_same (mapD_isMap l) ht _ _⟩
    · rw [has_put_other e] at hk
      by_cases hx : ∃ x, k = .int .u64 x
      · obtain ⟨x, rfl⟩ := hx
        rw [mapD_has] at hk
        obtain ⟨q, hq, rfl⟩ := (any_mem _ _).1 hk
        refine ⟨q, mem_setP.2 (.inr ⟨hq, fun e' => e (by rw [e'])⟩), rfl, ?_⟩
        rw [atKey_put_other e, mapD_at, h.find hq]
        rfl
      · rw [mapD_has_other l k (fun x e => hx ⟨x, e⟩)] at hk
        cases hk
  refine eq_mapD hc (setP_rise h p) (fun x q hq hh => ?_) (fun q hq => ?_) (fun k hk => ?_)
  · obtain ⟨r, hr, e, hat⟩ := main _ hh
    rw [hat] at hq
    have := pd_inj hq
    subst this
    simp only [Lit.int.injEq, true_and] at e
    exact ⟨hr, e.symm⟩
  · rcases mem_setP.1 hq with rfl | ⟨h1, h2⟩
    · exact ⟨has_put_same (mapD_isMap l) ht _, atKey_put_same (mapD_isMap l) ht _ _⟩
    · have e : Lit.int .u64 q.id ≠ .int .u64 p.id := by simpa using h2
      rw [has_put_other e, atKey_put_other e, mapD_has, mapD_at, h.find h1]
      exact ⟨(any_mem _ _).2 ⟨q, h1, rfl⟩, rfl⟩
  · obtain ⟨q, _, e, hat⟩ := main k hk
    exact ⟨q.id, q, e, hat⟩
theorem del_eq (l : List LP) (x : Int) : (mapD l).del (.int .u64 x) = mapD (delP l x) := by
  show DataW.map ((l.map fun p => ((Lit.int .u64 p.id, pd p) : Lit × DW)).filter fun p => !p.1.sameKey (.int .u64 x)) = _
  unfold mapD delP
  rw [List.filter_map]
  congr 3
  funext p
  show (!(Lit.int .u64 p.id).sameKey (.int .u64 x)) = !(p.id == x)
  rw [same_u64]
  rfl
/-- what a round's step says of an element -/
theorem mem_of_at {l : List LP} {x : Int} {p : LP} (h : ∀ z, (mapD l).atKey (.int .u64 x) z = pd p) : p ∈ l ∧ l.find? (fun q => q.id == x) = some p := by
  have h1 := h .nil
  rw [mapD_at] at h1
  cases hf : l.find? (fun q => q.id == x) with
  | none => rw [hf] at h1; cases h1
  | some q =>
    rw [hf] at h1
    have := pd_inj h1
    subst this
    exact ⟨List.mem_of_find?_eq_some hf, rfl⟩
theorem id_of_find {l : List LP} {x : Int} {p : LP} (h : l.find? (fun q => q.id == x) = some p) : p.id = x := by simpa using List.find?_some h
end Go.Proofs.Ytjfkenjmjoncbaa.Lg
