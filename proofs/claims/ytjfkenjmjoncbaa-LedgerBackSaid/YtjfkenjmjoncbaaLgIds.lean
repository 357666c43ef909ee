import Derived.Test.YtjfkenjmjoncbaaPAllx0
import Derived.Test.YtjfkenjmjoncbaaLgStale
import Derived.Test.YtjfkenjmjoncbaaSrt
import Derived.Sort.OwnSorted
import Derived.Maps.AppendAt
namespace Go.Proofs.Ytjfkenjmjoncbaa.Lg
open Go Go.Maps Go.WideShapes Go.RowKit Go.Sort Go.Proofs.Ytjfkenjmjoncbaa.PAll Go.Proofs.YtjfkenjmjoncbaaW.PrintWords Go.Proofs.YtjfkenjmjoncbaaW.PrintLast Go.Proofs.YtjfkenjmjoncbaaW.PrintMore
set_option linter.unusedVariables false
set_option linter.unusedSimpArgs false

/-! ids: the posts' numbers, gathered in whatever order, and sorted -/
theorem holds_u64 {w : World} {g : Nat} {cur : Array Value} {e : TypeId} {zs : List Int} (hb : w.heap[g]? = some (.cells cur e (0, 0))) (ht : cur.toList.take zs.length = zs.map (Value.int .u64)) : Holds (Value.int .u64) w g 0 zs.toArray := by
  intro j hj
  have hj' : j < zs.length := by simpa using hj
  refine ⟨?_, by simp [World.frozen?, hb]⟩
  have h1 : (cur.toList.take zs.length)[j]? = (zs.map (Value.int .u64))[j]? := by rw [ht]
  rw [List.getElem?_take_of_lt hj'] at h1
  simp only [World.cell?, hb, Nat.zero_add]
  simp only [Option.isSome_none, Bool.false_eq_true, if_false]
  rw [← Array.getElem?_toList, h1]
  simp [hj']
theorem heap_sorted64 {w : World} {g n : Nat} {os : Array Obj} {cur : Array Value} {e : TypeId} {fr : Nat × Nat} (d : Array Int) (hb : w.heap[g]? = some (.cells cur e fr)) :
    (grow (putRow (Value.int .u64) (Sort.ahead w n) g 0 d) os).heap[g]? = some (.cells (putCells (Value.int .u64) 0 d cur) e fr) := by
  have hg : g < w.heap.size := (Array.getElem?_eq_some_iff.1 hb).1
  rw [heap_grow_old _ _ (by simpa using hg)]
  simp [putRow, mapBlock, Sort.ahead, Array.getElem?_modify, hb, onCells]
theorem grownBy_sorted64 {w : World} {g n : Nat} {os : Array Obj} (d : Array Int) : w.grownBy (grow (putRow (Value.int .u64) (Sort.ahead w n) g 0 d) os) (some g) := by
  refine ⟨rfl, rfl, rfl, by simp, fun k hk hne => ?_⟩
  rw [heap_grow_old _ _ (by simpa using hk)]
  have : g ≠ k := fun e => hne (by rw [e])
  simp [putRow, mapBlock, Sort.ahead, Array.getElem?_modify, this]
theorem take_putCells64 (cur : Array Value) (ts : List Int) (h : ts.length ≤ cur.size) : (putCells (Value.int .u64) 0 ts.toArray cur).toList.take ts.length = ts.map (Value.int .u64) := by
  apply List.ext_getElem?
  intro j
  by_cases hj : j < ts.length
  · rw [List.getElem?_take_of_lt hj, Array.getElem?_toList]
    simp [putCells, hj, show j < cur.size by omega]
  · rw [List.getElem?_take_eq_none (by omega), List.getElem?_eq_none (by simp; omega)]
theorem ownsRow_sorted64 {w : World} {base g cap n : Nat} {e : TypeId} {os : Array Obj} {cur : Array Value} {ss ts : List Int} (hl : ts.length = ss.length) (hbase : base ≤ g) (hb : w.heap[g]? = some (.cells cur e (0, 0)))
    (h1 : ss.length ≤ cap) (h2 : cap ≤ maxLen) (h3 : cur.size = cap * 1) :
    (grow (putRow (Value.int .u64) (Sort.ahead w n) g 0 ts.toArray) os).ownsRow base e 1 (.slice (some ⟨g, 0, none⟩) ss.length cap) ss.length (ts.map (Value.int .u64)) :=
  ⟨by simp [hl], .inr ⟨g, cap, _, rfl, hbase, heap_sorted64 _ hb, h1, h2, by simp [putCells, h3], by rw [Nat.mul_one, ← hl]; exact take_putCells64 cur ts (by omega)⟩⟩
/-- the ids that have come -/
structure Came (l : List LP) (left : Lit → Bool) (xs : List Int) : Prop where
  nd : xs.Nodup
  mem : ∀ x, x ∈ xs ↔ (∃ p ∈ l, p.id = x) ∧ left (.int .u64 x) = false
theorem Came.start (l : List LP) : Came l (Maps.has (mapD l)) [] := by
  refine ⟨List.nodup_nil, fun x => ⟨fun h => by simp at h, fun ⟨⟨p, hp, e⟩, h⟩ => ?_⟩⟩
  rw [mapD_has, List.any_eq_false] at h
  exact absurd (by simpa using e) (h p hp)
theorem Came.step {l : List LP} {left : Lit → Bool} {xs : List Int} (h : Came l left xs) {p : LP} (hp : p ∈ l) (hl : left (.int .u64 p.id) = true) : Came l (fun z => left z && !z.sameKey (.int .u64 p.id)) (xs ++ [p.id]) := by
  have hnew : p.id ∉ xs := fun hx => by have := ((h.mem _).1 hx).2; rw [hl] at this; cases this
  refine ⟨List.nodup_append.2 ⟨h.nd, by simp, fun a ha b hb => by simp at hb; subst hb; exact fun e => hnew (e ▸ ha)⟩, fun y => ?_⟩
  simp only [same_u64]
  by_cases hy : y = p.id
  · subst hy; simp; exact ⟨p, hp, rfl⟩
  · simp [h.mem y, hy]
theorem Rise.ids {l : List LP} (h : Rise l) : (l.map LP.id).Pairwise (· < ·) := List.pairwise_map.2 h
theorem Came.done {l : List LP} (hl : Rise l) {left : Lit → Bool} {xs : List Int} (h : Came l left xs) (hd : ∀ kl, left kl = false) : xs.mergeSort (fun x y => decide (x ≤ y)) = l.map LP.id := by
  have hr := hl.ids
  have hnd : (l.map LP.id).Nodup := hr.imp (fun {a b} hab => by omega)
  have hp : xs.Perm (l.map LP.id) := (List.perm_ext_iff_of_nodup h.nd hnd).2 (fun x => by rw [h.mem x, hd]; simp)
  have tr : ∀ a b c : Int, decide (a ≤ b) = true → decide (b ≤ c) = true → decide (a ≤ c) = true := fun a b c h1 h2 => by simp only [decide_eq_true_eq] at *; omega
  have tot : ∀ a b : Int, (decide (a ≤ b) || decide (b ≤ a)) = true := fun a b => by simp only [Bool.or_eq_true, decide_eq_true_eq]; omega
  refine List.Perm.eq_of_pairwise (le := fun a b => decide (a ≤ b) = true) (fun a b _ _ h1 h2 => ?_) (List.pairwise_mergeSort tr tot xs) (hr.imp (fun {a b} hab => by simp only [decide_eq_true_eq]; omega)) ((List.mergeSort_perm xs _).trans hp)
  simp only [decide_eq_true_eq] at h1 h2
  omega
set_option maxHeartbeats 4000000 in
set_option maxRecDepth 100000 in
/-- ids (24) -/
theorem ids_calls {w : World} {B g b n : Nat} {v : Value} {L : LG} (h : Led w B g b n v L) (hn : n ≤ 1000000) :
    Calls Try.prog 24 #[.pointer (some ⟨g, 0, none⟩)] w fun e w' => ∃ u, e = .returned u ∧ Kd.R (Kd.int .u64) 24 w' w.heap.size (fun _ => True) u (L.posts.map LP.id) ∧ Below w.heap.size w w' := by
  obtain ⟨⟨h0, h1, h2, h3⟩, hf⟩ := h.cells
  obtain ⟨i0, hi, hz0, hz1, hz2⟩ := info_parts info24
  have I0 := Aside0.mk (And.intro hi (And.intro hz0 (And.intro hz1 hz2)))
  have hm := Aside0.mk h.map
  have hlen := Aside0.mk h.len
  have hok := Aside0.mk h.ok
  have hbl := Aside0.mk (h.lt (.inr (.inl rfl))).2
  have HN := Aside0.mk hn
  clear hi hz0 hz1 hz2 h hn
  go_enter Try.func24, Try.ntmps24
  go_wp2_with (at_range; refine wpList_range_own _ rfl _ 67 rfl 24 42 law24 Try.underlying67 _ b n _ rfl hm.out ?_; intro w0 hrg0 hg0 hs0)
  go_frame
  have X0 := Aside0.mk hrg0
  have X1 := Aside0.mk ((Below.refl w.heap.size w).grown hg0 (Nat.le_refl _) (fun j hj => by cases hj))
  have X4 := Aside0.mk (show w.heap.size < w0.heap.size by omega)
  clear hrg0 hg0 hs0 h0 h1 h2 h3 hf
  go_loopw [3, 4] (fun v3 v4 wr => ∃ (left : Lit → Bool) (cnt : Nat) (xs : List Int), Aside0 (wr.ranges Try.prog 24 postR b w.heap.size n (mapD L.posts) left cnt) ∧ Aside0 (xs.length + cnt ≤ L.posts.length) ∧
      Aside0 (wr.ownsRow (w.heap.size + 1) 24 1 v3 xs.length (xs.map (Value.int .u64))) ∧ Aside0 (Came L.posts left xs) ∧ Aside0 (Below w.heap.size w wr) ∧ Aside0 (w.heap.size < wr.heap.size))
    (fun _ _ wr => wr.rangeLeft b w.heap.size)
  case atStart => exact ⟨_, _, [], X0, ⟨by rw [mapD_size]; simp⟩, ⟨World.ownsRow_nil _ _ _ _⟩, ⟨Came.start _⟩, X1, X4⟩
  case round =>
    obtain ⟨left, cnt, xs, hrg, hcs, hrow, hC, hB, hsz⟩ := hrel
    go_wp2_with (at_next; refine wp_next _ rfl _ rfl b w.heap.size n _ _ rfl hrg.out ?_ ?_)
    · intro hc0 hl0
      have hd := Aside0.mk (hC.out.done hok.out.rise hl0)
      clear hl0
      rcases hrow.out.2 with ⟨hnil, hx0⟩ | ⟨g1, cap, cur, hv, hbase, hb, h1, h2, h3, h4⟩
      · subst hnil
        have hxs := List.length_eq_zero_iff.1 hx0
        subst hxs
        go_wp2_with (go_at_call 43; refine (Srt.Sort_int_nil none 0 _).mono ?_; rintro e w' ⟨rfl, rfl⟩)
        go_ret
        refine ⟨_, rfl, ?_, hB.out⟩
        rw [← hd.out, List.mergeSort_nil]
        exact Kd.R_nil _ _ _ _ _
      · subst hv
        have hH : Holds (Value.int .u64) wr g1 0 xs.toArray := holds_u64 hb (by simpa using h4)
        have hgl : g1 < wr.heap.size := (Array.getElem?_eq_some_iff.1 hb).1
        have hc := Aside0.mk (Srt.slices_Sort_int g1 0 cap xs wr hH hgl (by have := hcs.out; have := hlen.out; have := HN.out; omega))
        have Hb := Aside0.mk (And.intro hbase (And.intro hb (And.intro h1 (And.intro h2 h3))))
        clear hH hgl hbase hb h1 h2 h3 h4
        rw [hd.out] at hc
        go_wp2_with (go_at_call 43; refine hc.out.mono ?_; rintro e w' ⟨rfl, nn, os, rfl⟩)
        go_ret
        have hl1 : (L.posts.map LP.id).length = xs.length := by rw [← hd.out, List.length_mergeSort]
        obtain ⟨hbase, hb, h1, h2, h3⟩ := Hb.out
        have ho := ownsRow_sorted64 (os := os) (n := nn) hl1 hbase hb h1 h2 h3
        rw [← hl1] at ho
        refine ⟨_, rfl, ?_, hB.out.grown (grownBy_sorted64 _) hB.out.size (fun j hj => by cases hj; omega)⟩
        rw [hl1] at ho
        have := Kd.R_of_own (enc := Value.int .u64) (h1 := fun _ => rfl) (ok := fun _ => True) (xs := L.posts.map LP.id) (e := 24) (w := grow (putRow (Value.int .u64) (Sort.ahead wr nn) g1 0 (L.posts.map LP.id).toArray) os) (base := w.heap.size) (v := .slice (some ⟨g1, 0, none⟩) xs.length cap) (by rw [hl1]; exact own_weaken ho (Nat.le_succ _)) (fun _ _ => trivial)
        exact this
    · intro p w2 cnt2 hp hlk hrg2 hlt hg2 hs2 hen
      have hrow2 := Aside0.mk (hrow.out.kept hg2 (Or.inr (row_ne_iter hrow.out hrg.out).symm))
      have HR2 := Aside0.mk hrg2
      have HB2 := Aside0.mk (hB.out.grown hg2 hB.out.size (fun j hj => by cases hj; exact Nat.le_refl _))
      have HS2 := Aside0.mk (show w.heap.size < w2.heap.size by have := hsz.out; omega)
      have HC2 := Aside0.mk (hC.out.step hp hlk)
      have HL := Aside0.mk (show xs.length + 1 + cnt2 ≤ L.posts.length by have := hcs.out; omega)
      have hlen2 : xs.length ≤ 1000000 := by have := hcs.out; have := hlen.out; have := HN.out; omega
      have HXL := Aside0.mk hlen2
      clear hs2 hg2 hrg2 hrow hB hsz hC hcs hp hlk hlen2
      go_wp2_with (at_builtin; refine wpList_append_own _ rfl _ _ 39 rfl (w.heap.size + 1) 24 i0 (.int .u64 0) 1 8 Try.underlying39 I0.out.1 I0.out.2.1 I0.out.2.2.1 I0.out.2.2.2 rfl (by decide) _ _ _ rfl (hrow2.out.alloc _) ⟨w2.heap.size, 0, none⟩ 1 1 [.int .u64 p.id] rfl rfl (cell_one_new _ _ _) (by simp [Value.oneCell']) (by have := HXL.out; unfold maxLen; omega) (by have := HXL.out; omega) (by have := HS2.out; simp; omega) ?_; intro v' w3 hown' hg3 hnil3; have HO3 := Aside0.mk hown'; have HG3 := Aside0.mk hg3; clear hown' hg3 hnil3; go_frame)
      have hrg3 := (HR2.out.alloc _).kept HG3.out (row_ne_low hrow2.out (by have := hbl.out; omega)) (row_ne_iter hrow2.out HR2.out)
      go_roundw
      case rel =>
        refine ⟨_, cnt2, xs ++ [p.id], ⟨hrg3⟩, ⟨by simp; have := HL.out; omega⟩, ⟨by simpa using HO3.out⟩, HC2, ⟨?_⟩, ⟨?_⟩⟩
        · exact (HB2.out.alloc (by have := HS2.out; omega) _).grown HG3.out (by have := HS2.out; simp; omega) (fun j hj => by have := (hrow2.out.lt j hj).1; omega)
        · have q1 := HG3.out.size
          have q2 := HS2.out
          rw [show (w2.alloc _).heap.size = w2.heap.size + 1 by simp] at q1
          omega
      case measure => rw [hrg3.left_eq, hrg.out.left_eq]; exact hlt
end Go.Proofs.Ytjfkenjmjoncbaa.Lg
