import Derived.Test.YtjfkenjmjoncbaaPAllx0
import Derived.Test.YtjfkenjmjoncbaaLgSem
import Derived.Test.YtjfkenjmjoncbaaProg
import Derived.OwnWalk
import Derived.Below
namespace Go.Proofs.Ytjfkenjmjoncbaa.Lg
open Go Go.Maps Go.WideShapes Go.RowKit Go.Proofs.YtjfkenjmjoncbaaW.PrintWords

/-! A ledger as it lies in a world. -/
/-- nothing has turned but blocks of S, and new ones -/
structure Mv (S : Nat → Prop) (w w' : World) : Prop where
  os : w'.os = w.os
  tape : w'.tape = w.tape
  output : w'.output = w.output
  size : w.heap.size ≤ w'.heap.size
  block : ∀ k, k < w.heap.size → ¬ S k → w'.heap[k]? = w.heap[k]?
theorem Mv.refl (S : Nat → Prop) (w : World) : Mv S w w := ⟨rfl, rfl, rfl, Nat.le_refl _, fun _ _ _ => rfl⟩
theorem Mv.of_below {S : Nat → Prop} {w w' : World} (h : Below w.heap.size w w') : Mv S w w' := ⟨h.os, h.tape, h.output, h.size, fun k hk _ => h.block k hk⟩
theorem Mv.of_grown {w w' : World} {row : Option Nat} {S : Nat → Prop} (h : w.grownBy w' row) (hS : ∀ j, row = some j → S j) : Mv S w w' :=
  ⟨h.os, h.tape, h.output, h.size, fun k hk hn => h.block k hk (fun e => hn (hS k e.symm))⟩
theorem Mv.below {S : Nat → Prop} {B : Nat} {w w' : World} (h : Mv S w w') (hS : ∀ j, S j → B ≤ j) (hB : B ≤ w.heap.size) : Below B w w' :=
  ⟨h.os, h.tape, h.output, h.size, fun k hk => h.block k (by omega) (fun hs => by have := hS k hs; omega)⟩
theorem Mv.trans {S S' : Nat → Prop} {a b c : World} (h : Mv S a b) (k : Mv S' b c) (hS : ∀ j, S' j → S j ∨ a.heap.size ≤ j) : Mv S a c :=
  ⟨k.os.trans h.os, k.tape.trans h.tape, k.output.trans h.output, Nat.le_trans h.size k.size, fun i hi hn => (k.block i (Nat.lt_of_lt_of_le hi h.size) (fun hs => by
    rcases hS i hs with g | g
    · exact hn g
    · omega)).trans (h.block i hi hn)⟩
theorem Mv.imp {S S' : Nat → Prop} {w w' : World} (h : Mv S w w') (hS : ∀ j, S j → S' j) : Mv S' w w' := ⟨h.os, h.tape, h.output, h.size, fun k hk hn => h.block k hk (fun hs => hn (hS k hs))⟩
theorem Mv.set {w : World} {g i : Nat} {S : Nat → Prop} (u : Value) (hS : S g) : Mv S w (w.setCell ⟨g, i, none⟩ u) :=
  ⟨rfl, rfl, rfl, by simp [World.setCell], fun k _ hn => Below.heap_setCell _ _ _ _ (fun e => hn (by simp only at e; rw [e]; exact hS))⟩
theorem own_mv {w w' : World} {S : Nat → Prop} {B e size n : Nat} {v : Value} {xs : List Value} (h : w.ownsRow B e size v n xs) (m : Mv S w w') (hS : ∀ j, v.ownBlock = some j → ¬ S j) : w'.ownsRow B e size v n xs := by
  refine ⟨h.1, ?_⟩
  rcases h.2 with hn | ⟨g, cap, cur, rfl, hb, hgg, rest⟩
  · exact .inl hn
  · exact .inr ⟨g, cap, cur, rfl, hb, (m.block g (Array.getElem?_eq_some_iff.1 hgg).1 (hS g rfl)).trans hgg, rest⟩
theorem map_mv {H : Type} {P : Program} {k : TypeId} {R : Value → Option (DataW H × List MemPlace)} {w w' : World} {S : Nat → Prop} {b n : Nat} {D : DataW H} (h : w.ownsMap P k R b n D) (m : Mv S w w') (hS : ¬ S b) : w'.ownsMap P k R b n D := by
  have hlt := h.lt
  obtain ⟨es, clock, hb, F, hs, hD⟩ := h
  exact ⟨es, clock, (m.block b hlt hS).trans hb, F, hs, hD⟩
/-- a ledger's own blocks -/
def Owns (g b : Nat) (v : Value) (j : Nat) : Prop := j = g ∨ j = b ∨ v.ownBlock = some j
def lcells (b : Nat) (v : Value) (L : LG) : Array Value := #[.map (some b), v, .int .u64 L.next, .int .u64 L.cur]
structure Led (w : World) (B g b n : Nat) (v : Value) (L : LG) : Prop where
  blk : w.heap[g]? = some (.cells (lcells b v L) 69 (0, 0))
  map : w.ownsMap Try.prog 24 postR b n (mapD L.posts)
  row : w.ownsRow B 9 1 v L.pols.length (L.pols.map Value.string)
  gB : B ≤ g
  bB : B ≤ b
  ok : L.Ok
theorem Led.mv {w w' : World} {S : Nat → Prop} {B g b n : Nat} {v : Value} {L : LG} (h : Led w B g b n v L) (m : Mv S w w') (hS : ∀ j, Owns g b v j → ¬ S j) : Led w' B g b n v L :=
  ⟨(m.block g (Array.getElem?_eq_some_iff.1 h.blk).1 (hS g (.inl rfl))).trans h.blk, map_mv h.map m (hS b (.inr (.inl rfl))), own_mv h.row m (fun j hj => hS j (.inr (.inr hj))), h.gB, h.bB, h.ok⟩
theorem Led.below {w w' : World} {B g b n : Nat} {v : Value} {L : LG} (h : Led w B g b n v L) (m : Below w.heap.size w w') : Led w' B g b n v L := h.mv (S := fun _ => False) (.of_below m) (fun _ _ => id)
theorem Led.lt {w : World} {B g b n : Nat} {v : Value} {L : LG} (h : Led w B g b n v L) {j : Nat} (hj : Owns g b v j) : B ≤ j ∧ j < w.heap.size := by
  rcases hj with rfl | rfl | hj
  · exact ⟨h.gB, (Array.getElem?_eq_some_iff.1 h.blk).1⟩
  · exact ⟨h.bB, h.map.lt⟩
  · exact h.row.lt j hj
theorem Led.ne {w : World} {B g b n : Nat} {v : Value} {L : LG} (h : Led w B g b n v L) : g ≠ b ∧ v.ownBlock ≠ some g ∧ v.ownBlock ≠ some b := by
  obtain ⟨es, clock, hb, _⟩ := h.map
  refine ⟨fun e => ?_, fun e => ?_, fun e => ?_⟩
  · have h1 := h.blk
    rw [e, hb] at h1
    cases h1
  · rcases h.row.2 with ⟨rfl, _⟩ | ⟨g', cap, cur, rfl, _, hg, _⟩
    · cases e
    · cases e
      have h1 := h.blk
      rw [hg] at h1
      simp at h1
  · rcases h.row.2 with ⟨rfl, _⟩ | ⟨g', cap, cur, rfl, _, hg, _⟩
    · cases e
    · cases e
      rw [hb] at hg
      cases hg
theorem Led.mono {w : World} {B g b n n' : Nat} {v : Value} {L : LG} (h : Led w B g b n v L) (hn : n ≤ n') : Led w B g b n' v L := ⟨h.blk, h.map.mono hn, h.row, h.gB, h.bB, h.ok⟩
theorem Led.len {w : World} {B g b n : Nat} {v : Value} {L : LG} (h : Led w B g b n v L) : L.posts.length ≤ n := by rw [← mapD_size]; exact h.map.size_le
/-- the slice of policies -/
theorem Led.slice {w : World} {B g b n : Nat} {v : Value} {L : LG} (h : Led w B g b n v L) : ∃ (A : Option Addr) (c : Nat), v = .slice A L.pols.length c ∧ L.pols.length ≤ c := by
  rcases h.row.2 with ⟨rfl, e⟩ | ⟨g', cap, cur, rfl, _, hg, h1, _⟩
  · exact ⟨none, 0, by rw [e], by omega⟩
  · exact ⟨_, _, rfl, h1⟩
end Go.Proofs.Ytjfkenjmjoncbaa.Lg
