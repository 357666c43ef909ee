import Derived.Test.YtjfkenjmjoncbaaPAllx0
import Derived.Test.YtjfkenjmjoncbaaPAllx8
import Derived.Test.YtjfkenjmjoncbaaLgPlay
namespace Go.Proofs.Ytjfkenjmjoncbaa.Lg
open Go Go.Maps Go.WideShapes Go.RowKit Go.Proofs.Ytjfkenjmjoncbaa.PAll Go.Proofs.YtjfkenjmjoncbaaW.PrintWords Go.Proofs.YtjfkenjmjoncbaaW.PrintLast Go.Proofs.YtjfkenjmjoncbaaW.PrintMore
set_option linter.unusedVariables false
set_option linter.unusedSimpArgs false

/-! ### pairs alike -/
def Bytes (l : List Int) : Prop := ∀ d ∈ l, 0 ≤ d ∧ d ≤ 255
theorem bytesOf_str (ys : List Int) (h : Bytes ys) : bytesOf (strOfNums ys) = ys := by
  unfold bytesOf
  rw [strOfNums_data, List.map_map]
  have e : ys.map ((fun b : UInt8 => (b.toNat : Int)) ∘ fun n => UInt8.ofNat n.toNat) = ys.map id := List.map_congr_left fun d hd => by
    have := h d hd
    simp
    omega
  rw [e, List.map_id]
theorem strOf_inj {a b : List Int} (ha : Bytes a) (hb : Bytes b) : (strOfNums a).toList = (strOfNums b).toList ↔ a = b := by
  constructor
  · intro h
    rw [ByteArray.toList_eq, ByteArray.toList_eq] at h
    rw [← bytesOf_str a ha, ← bytesOf_str b hb]
    unfold bytesOf
    rw [h]
  · rintro rfl; rfl
theorem rd_get {l : List S52} {i : Nat} (h : i < l.length) : rd_T52 l (i : Int) = l[i] := by
  unfold rd_T52
  simp [h]
theorem same_loop {a b : List S52} (ha : ∀ x ∈ a, Bytes x.f1) (hb : ∀ x ∈ b, Bytes x.f1) (hl : a.length = b.length) (hm : a.length ≤ 9223372036854775800) : ∀ (d i k : Nat), i + d = a.length → d < k → ∃ r, marginaliaref21_Same.l0 k a b (i : Int) = some r ∧ (r = true ↔ a.drop i = b.drop i) := by
  intro d
  induction d with
  | zero =>
    intro i k hi hk
    obtain ⟨k', rfl⟩ : ∃ k', k = k' + 1 := ⟨k - 1, by omega⟩
    refine ⟨true, ?_, ?_⟩
    · rw [marginaliaref21_Same.l0, if_neg (by omega)]
    · rw [List.drop_eq_nil_of_le (by omega), List.drop_eq_nil_of_le (by omega)]; simp
  | succ d ih =>
    intro i k hi hk
    obtain ⟨k', rfl⟩ : ∃ k', k = k' + 1 := ⟨k - 1, by omega⟩
    have h1 : i < a.length := by omega
    have h2 : i < b.length := by omega
    obtain ⟨r, hr, hiff⟩ := ih (i + 1) k' (by omega) (by omega)
    have hi1 := strOf_inj (ha _ (List.getElem_mem h1)) (hb _ (List.getElem_mem h2))
    rw [marginaliaref21_Same.l0, if_pos (by omega), if_pos (by omega), if_pos (by omega), rd_get h1, rd_get h2, List.drop_eq_getElem_cons h1, List.drop_eq_getElem_cons h2]
    by_cases c1 : a[i].f0 = b[i].f0
    · rw [if_pos c1]
      by_cases c2 : a[i].f1 = b[i].f1
      · rw [if_pos (hi1.2 c2), show wrap64 ((i : Int) + 1) = ((i + 1 : Nat) : Int) by unfold wrap64; omega]
        have e : a[i] = b[i] := by
          cases h : a[i]; cases h' : b[i]
          rw [h, h'] at c1 c2
          simp only at c1 c2
          rw [c1, c2]
        refine ⟨r, hr, ?_⟩
        rw [hiff, e]
        constructor
        · intro h; rw [h]
        · intro h; exact (List.cons.inj h).2
      · rw [if_neg (fun h => c2 (hi1.1 h))]
        refine ⟨false, rfl, ?_⟩
        simp only [Bool.false_eq_true, List.cons.injEq, false_iff, not_and]
        intro h
        exact absurd (by rw [h]) c2
    · rw [if_neg c1]
      refine ⟨false, rfl, ?_⟩
      simp only [Bool.false_eq_true, List.cons.injEq, false_iff, not_and]
      intro h
      exact absurd (by rw [h]) c1
theorem same_is {a b : List S52} (ha : ∀ x ∈ a, Bytes x.f1) (hb : ∀ x ∈ b, Bytes x.f1) (hm : a.length ≤ 9223372036854775800) : ∃ r, marginaliaref21_Same.f (a.length + 1) a b = some r ∧ (r = true ↔ a = b) := by
  unfold marginaliaref21_Same.f
  by_cases hl : a.length = b.length
  · rw [if_pos (by omega)]
    obtain ⟨r, hr, hi⟩ := same_loop ha hb hl hm a.length 0 (a.length + 1) (by omega) (by omega)
    exact ⟨r, hr, by simpa using hi⟩
  · rw [if_neg (by omega)]
    refine ⟨false, rfl, ?_⟩
    simp only [Bool.false_eq_true, false_iff]
    intro e
    exact hl (by rw [e])
theorem bytes_be8 (x : Int) : Bytes (be8 x) := fun d hd => be_byte 8 _ d hd
theorem bytes_text (s : ByteArray) : Bytes (bytesOf s) := fun d hd => by
  unfold bytesOf at hd
  obtain ⟨c, _, rfl⟩ := List.mem_map.1 hd
  have := c.toNat_lt
  omega
theorem bytes_app {a b : List Int} (ha : Bytes a) (hb : Bytes b) : Bytes (a ++ b) := fun d hd => by
  rcases List.mem_append.1 hd with h | h
  · exact ha d h
  · exact hb d h
theorem pairsS_bytes (L : LG) : ∀ x ∈ L.pairsS, Bytes x.f1 := by
  intro x hx
  unfold LG.pairsS at hx
  rcases List.mem_append.1 hx with h | h
  · rcases List.mem_append.1 h with h | h
    · obtain ⟨p, _, rfl⟩ := List.mem_map.1 h
      exact bytes_app (bytes_be8 _) (bytes_text _)
    · unfold polsS at h
      obtain ⟨j, _, rfl⟩ := List.mem_map.1 h
      exact bytes_text _
  · rw [List.mem_singleton.1 h]
    exact bytes_app (bytes_app (bytes_be8 _) (bytes_be8 _)) (bytes_be8 _)
theorem polPairs_eq : ∀ (l : List ByteArray) (j : Nat), polPairs j l = (List.range l.length).map (fun i => (9223372036854775808 + ((j + i : Nat) : Int) + 1, nums (rdOf ByteArray.empty l (i : Int))))
  | [], _ => rfl
  | s :: r, j => by
    rw [polPairs, polPairs_eq r (j + 1), List.length_cons, List.range_succ_eq_map, List.map_cons, List.map_map]
    congr 1
    refine List.map_congr_left fun i hi => ?_
    simp only [Function.comp]
    have e1 : rdOf ByteArray.empty (s :: r) ((i.succ : Nat) : Int) = rdOf ByteArray.empty r (i : Int) := by unfold rdOf; simp
    rw [e1]
    congr 2
    omega
theorem pairsS_pairs (L : LG) : L.pairsS.map (fun x => (x.f0, x.f1)) = L.pairs := by
  unfold LG.pairsS LG.pairs
  rw [List.map_append, List.map_append, List.map_map, polPairs_eq]
  congr 1
  congr 1
  unfold polsS
  rw [List.map_map]
  refine List.map_congr_left fun i hi => ?_
  simp only [Function.comp, polS]
  congr 2
  omega
theorem pairsS_len (L : LG) : L.pairsS.length = L.posts.length + L.pols.length + 1 := by
  rw [← List.length_map (f := fun x : S52 => (x.f0, x.f1)), pairsS_pairs, LG.pairs_len]
theorem PRow.reads {w : World} {B : Nat} {u : Value} {ps : List S52} (h : PRow w B u ps) : ∃ A c, u = .slice A ps.length c ∧ ps.length ≤ c ∧ Kd.C k52 w A ps.length ps := by
  obtain ⟨A, c, e, hl, hC⟩ := Kd.N_reads h
  exact ⟨A, c, e, hl, hC.imp_ (Below.refl _ _) (fun _ _ hp => hp.1)⟩
/-- pairs that are only read: from block B on, and below T -/
def PTop (w : World) (B T : Nat) (u : Value) (ps : List S52) : Prop := Kd.N (kP B) 52 w B (fun k => B ≤ k ∧ k < T) u ps
theorem PRow.top {w : World} {B : Nat} {u : Value} {ps : List S52} (h : PRow w B u ps) : PTop w B w.heap.size u ps := Kd.N_bound h
theorem PTop.below {w w1 : World} {B T : Nat} {u : Value} {ps : List S52} (h : PTop w B T u ps) (hb : Below w.heap.size w w1) : PTop w1 B T u ps := Kd.N_below h hb
theorem PTop.mv {w w' : World} {B T : Nat} {u : Value} {ps : List S52} {S : Nat → Prop} (h : PTop w B T u ps) (m : Mv S w w') (hS : ∀ j, S j → j < B ∨ T ≤ j) : PTop w' B T u ps :=
  Kd.N_step h (fun k hk hlt => m.block k hlt (fun hs => by have := hS k hs; omega))
theorem PTop.reads {w : World} {B T : Nat} {u : Value} {ps : List S52} (h : PTop w B T u ps) : ∃ A c, u = .slice A ps.length c ∧ ps.length ≤ c ∧ Kd.C k52 w A ps.length ps := by
  obtain ⟨A, c, e, hl, hC⟩ := Kd.N_reads h
  exact ⟨A, c, e, hl, hC.imp_ (Below.refl _ _) (fun _ _ hp => hp.1)⟩
/-- Same (12), of what two ledgers are as pairs -/
theorem same_calls {w : World} {B B' T T' : Nat} {u u' : Value} {ps ps' : List S52} (h : PTop w B T u ps) (h' : PTop w B' T' u' ps') (hb : ∀ x ∈ ps, Bytes x.f1) (hb' : ∀ x ∈ ps', Bytes x.f1) (hm : ps.length ≤ 3000000) :
    ∃ r : Bool, (r = true ↔ ps = ps') ∧ Calls Try.prog 12 #[u, u'] w fun e w' => e = .returned (.bool r) ∧ Drawn0 w w' := by
  obtain ⟨A, c, rfl, hl, hC⟩ := h.reads
  obtain ⟨A', c', rfl, hl', hC'⟩ := h'.reads
  obtain ⟨r, hr, hi⟩ := same_is hb hb' (by omega)
  exact ⟨r, hi, marginaliaref21_Same.calls _ A c ps A' c' ps' r w hC hl hC' hl' hr⟩
theorem drawn_below {w w' : World} (h : Drawn0 w w') : Below w.heap.size w w' := by
  obtain ⟨n, rfl⟩ := h.out
  exact pw_below_drewN (Below.refl _ _) n
end Go.Proofs.Ytjfkenjmjoncbaa.Lg
