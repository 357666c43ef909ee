import Derived.Test.YtjfkenjmjoncbaaPAllx0
import Derived.Test.YtjfkenjmjoncbaaLgSame
namespace Go.Proofs.Ytjfkenjmjoncbaa.Lg
open Go Go.Maps Go.WideShapes Go.RowKit Go.Proofs.Ytjfkenjmjoncbaa.PAll Go.Proofs.YtjfkenjmjoncbaaW.PrintWords Go.Proofs.YtjfkenjmjoncbaaW.PrintLast Go.Proofs.YtjfkenjmjoncbaaW.PrintMore
set_option linter.unusedVariables false
set_option linter.unusedSimpArgs false

/-! ### the rows of pairs are written over -/
/-- only cells of blocks from B on, and not the outer row's, have turned -/
structure Sp (B bo : Nat) (w w' : World) : Prop where
  below : Below B w w'
  size : w'.heap.size = w.heap.size
  outer : w'.heap[bo]? = w.heap[bo]?
  cells : ∀ a u, w.cell? a = some u → ∃ u', w'.cell? a = some u'
  frozen : ∀ a, w'.frozen? a = w.frozen? a
theorem Sp.refl (B bo : Nat) (w : World) : Sp B bo w w := ⟨.refl _ _, rfl, rfl, fun _ u h => ⟨u, h⟩, fun _ => rfl⟩
theorem frozen_set (w : World) (p : Addr) (u : Value) (a : Addr) : (w.setCell p u).frozen? a = w.frozen? a := by
  by_cases e : a.block = p.block
  · cases hb : w.heap[p.block]? with
    | none => simp [World.frozen?, World.setCell, Array.getElem?_modify, e, hb]
    | some o => cases o <;> simp [World.frozen?, World.setCell, Array.getElem?_modify, e, hb]
  · have := Below.heap_setCell w p u a.block e
    simp only [World.frozen?, this]
theorem Sp.set {B bo : Nat} {w w' : World} (h : Sp B bo w w') {p : Addr} (hp : B ≤ p.block ∧ p.block ≠ bo) (u : Value) : Sp B bo w (w'.setCell p u) := by
  have hb : Below B w' (w'.setCell p u) := ⟨rfl, rfl, rfl, by simp [World.setCell], fun k hk => Below.heap_setCell _ _ _ _ (by omega)⟩
  refine ⟨h.below.trans hb, by simpa [World.setCell] using h.size, (Below.heap_setCell w' p u bo (fun e => hp.2 e.symm)).trans h.outer, fun a v ha => ?_, fun a => (frozen_set w' p u a).trans (h.frozen a)⟩
  obtain ⟨u', hu'⟩ := h.cells a v ha
  by_cases e : p = a
  · subst e
    exact ⟨u, World.cell?_setCell_same _ _ _ hu'⟩
  · exact ⟨u', (World.cell?_setCell_other _ _ _ _ e).trans hu'⟩
theorem prow_rows {w : World} {B : Nat} {u : Value} {ps : List S52} (h : PRow w B u ps) (hp : 0 < ps.length) : ∃ g c, u = .slice (some ⟨g, 0, none⟩) ps.length c ∧ B ≤ g ∧
    ∀ i : Nat, i < ps.length → ∃ A n c', w.cell? ⟨g, i * 2 + 1, none⟩ = some (.slice A n c') ∧ n ≤ 9223372036854775807 ∧ (0 < n → ∃ a, A = some a ∧ B ≤ a.block ∧ a.block ≠ g ∧ ∀ k : Nat, k < n → (∃ x, w.cell? (a.add k) = some x) ∧ w.frozen? (a.add k) = false) := by
  obtain ⟨g, cap, e, hg, hgl, cells, hcells⟩ := Kd.N_form h hp
  subst e
  refine ⟨g, cap, rfl, hg, fun i hi => ?_⟩
  obtain ⟨_, rows, hl, hR, hf⟩ := h
  obtain ⟨hn, hc, hC⟩ := Kd.R_reads' hR
  rw [hl] at hC
  obtain ⟨ad, he, hcell⟩ := hC.2.2 hp
  cases he
  have hjl : i < rows.length := by omega
  obtain ⟨c', hcl, hK, hcc⟩ := hcell i _ (List.getElem?_eq_getElem hjl)
  have hfk := hf i ps[i] rows[i] (List.getElem?_eq_getElem hi) (List.getElem?_eq_getElem hjl)
  have hcr : c' = rows[i] := hK.1
  obtain ⟨k1, k2⟩ := hfk w (fun _ _ _ => rfl)
  have hz := hfk { w with heap := w.heap.setIfInBounds g (.cells #[] 0 (0, 0)) } (fun k hk _ => by
    have : k ≠ g := fun e => hk.2 (by rw [e]; rfl)
    simp [Array.getElem?_setIfInBounds, Ne.symm this])
  obtain ⟨A1, c1, e1, hl1, hC1⟩ := k52_open k1
  obtain ⟨A2, c2, e2, hl2, hC2⟩ := k52_open hz.1
  rw [e1] at e2
  obtain ⟨rfl, rfl⟩ : A1 = A2 ∧ c1 = c2 := by simpa using e2
  refine ⟨A1, ps[i].f1.length, c1, ?_, hC1.2.1, fun hn0 => ?_⟩
  · have h9 : w.cell? ((⟨g, 0, none⟩ : Addr).add (i * 2 + 1)) = some (.slice A1 ps[i].f1.length c1) := hcc 1 _ (by rw [hcr, e1]; rfl)
    simpa [Addr.add] using h9
  · obtain ⟨a, ea, _⟩ := Kd.at_int hC1 0 (by omega) (by omega)
    subst ea
    obtain ⟨b1, b2⟩ := k2 a ps[i].f1.length c1 (by rw [e1]; rfl) hn0
    refine ⟨a, rfl, b1, fun eg => ?_, fun k hk => ⟨?_, b2 k hk⟩⟩
    · obtain ⟨a', ea', hcell'⟩ := Kd.at_int hC2 0 (by omega) (by omega)
      cases ea'
      have hb : (a.add (0 : Int).toNat).block = g := by rw [Go.Proofs.YtjfkenjmjoncbaaW.PrintWords.add_block]; exact eg
      rw [World.cell?, hb] at hcell'
      simp [Array.getElem?_setIfInBounds, hgl] at hcell'
    · obtain ⟨a', ea', hcell'⟩ := Kd.at_int hC1 (k : Int) (by omega) (by omega)
      cases ea'
      exact ⟨_, hcell'⟩
end Go.Proofs.Ytjfkenjmjoncbaa.Lg
