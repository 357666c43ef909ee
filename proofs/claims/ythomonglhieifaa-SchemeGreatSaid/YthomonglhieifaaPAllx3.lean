-- Written by a program of this session (hprint.py: the kit's print over several laws at once, with functions proved by hand). Lean checks it.
import Derived.Test.YthomonglhieifaaPAllx0
namespace Go.Proofs.Ythomonglhieifaa.PAll
open Go.RowKit Go.Proofs.YthomonglhieifaaW.PrintWords Go.Proofs.YthomonglhieifaaW.PrintLast Go.Proofs.YthomonglhieifaaW.PrintMore
attribute [local go_sem] max2_int min2_int max_two min_two max_three min_three max_four min_four   -- for this text's walks alone
set_option linter.unusedVariables false
set_option linter.unusedSimpArgs false

-- EXT marginalia/scheme.tidy ; rounds=0 ; making=1 ; uses=
/-! ### the builder, and scheme_tidy: function 14 -/
open Go.Shelf in
def lays240_ren : Go.Shelf.Ren := ⟨fun | 240 => 29 | 276 => 34 | n => n, fun | 0 => 0 | 4 => 4 | 9 => 9 | 20 => 20 | 70 => 36 | 72 => 38 | 164 => 49 | 37 => 28 | 5 => 5 | n => n, fun | n => n⟩
open Go.Shelf in
theorem lays240 : Go.Proofs.Lays.n240 Try.prog lays240_ren := {
  mixed := by kernel_rfl
  f240 := Try.func29.trans (congrArg some (by kernel_rfl))
  f276 := Try.func34.trans (congrArg some (by kernel_rfl))
  t0 := Try.underlying0
  a0 := Try.isAgg0
  z0 := Try.sizeOf0
  v0 := Try.zeroValue0
  t4 := Try.underlying4
  a4 := Try.isAgg4
  z4 := Try.sizeOf4
  v4 := Try.zeroValue4
  t9 := Try.underlying9
  a9 := Try.isAgg9
  z9 := Try.sizeOf9
  v9 := Try.zeroValue9
  t20 := Try.underlying20
  a20 := Try.isAgg20
  z20 := Try.sizeOf20
  v20 := Try.zeroValue20
  t70 := Try.underlying36
  a70 := Try.isAgg36
  z70 := Try.sizeOf36
  v70 := Try.zeroValue36
  t72 := Try.underlying38
  a72 := Try.isAgg38
  z72 := Try.sizeOf38
  v72 := Try.zeroValue38
  t164 := Try.underlying49
  a164 := Try.isAgg49
  z164 := Try.sizeOf49
  v164 := Try.zeroValue49
}
open Go.Shelf in
theorem bX72 : Builder.X72 Try.prog lays240_ren where
  sizeBuilder := by kernel_rfl
  liesBuilder := by kernel_rfl
set_option maxHeartbeats 8000000 in
set_option maxRecDepth 100000 in
/-- copyCheck (29): behind it the builder's first cell holds its own address. -/
theorem bld_copy (b : Nat) (p v : Value) (w : World) (hb : w.heap[b]? = some (.cells #[p, v] 38 (0, 0))) (hp : p = .pointer none ∨ p = .pointer (some ⟨b, 0, none⟩)) :
    Calls Try.prog 29 #[.pointer (some ⟨b, 0, none⟩)] w fun e w' => e = .returned (.tuple #[]) ∧ w'.heap[b]? = some (.cells #[.pointer (some ⟨b, 0, none⟩), v] 38 (0, 0)) ∧ (w' = w ∨ w' = w.setCell ⟨b, 0, none⟩ (.pointer (some ⟨b, 0, none⟩))) := by
  have c0 : w.cell? ⟨b, 0, none⟩ = some p := (blk_cell hb 0).trans rfl
  rcases hp with rfl | rfl
  · refine (Any.Builder_copyCheck_fresh lays240 bX72 b w c0 (by simp [World.shape?, hb]; rfl) (blk_frozen hb 0)).mono ?_
    rintro e w' ⟨rfl, rfl⟩
    exact ⟨rfl, blk_put hb 0 _ rfl, Or.inr rfl⟩
  · refine (Any.Builder_copyCheck_used lays240 bX72 b w c0).mono ?_
    rintro e w' ⟨rfl, rfl⟩
    exact ⟨rfl, hb, Or.inl rfl⟩

/-- What a write into a builder leaves as it was: every block below B but the builder's own. -/
def BKeep (B b : Nat) (w w' : World) : Prop := w.heap.size ≤ w'.heap.size ∧ (∀ i, i < B → i ≠ b → w'.heap[i]? = w.heap[i]?) ∧ (∀ x, x ≤ b → Below x w w')
set_option maxHeartbeats 8000000 in
set_option maxRecDepth 100000 in
theorem bld_byte (B b : Nat) (p v : Value) (bs : List Value) (c : Int) (w : World) (hb : w.heap[b]? = some (.cells #[p, v] 38 (0, 0))) (hp : p = .pointer none ∨ p = .pointer (some ⟨b, 0, none⟩))
    (hown : w.ownsRow B 5 1 v bs.length bs) (hbB : b < B) (hB : B ≤ w.heap.size) (hlen : bs.length + 1 ≤ 140737488355328) :
    Calls Try.prog 24 #[.pointer (some ⟨b, 0, none⟩), .int .u8 c] w fun e w' => e = .returned .nilIface ∧ ∃ v', w'.heap[b]? = some (.cells #[.pointer (some ⟨b, 0, none⟩), v'] 38 (0, 0)) ∧ w'.ownsRow B 5 1 v' (bs ++ [Value.int .u8 c]).length (bs ++ [Value.int .u8 c]) ∧ BKeep B b w w' := by
  obtain ⟨i0, hi, hz0, hz1, hz2⟩ := info_parts (show (Try.prog.info? 5).map (fun i => (i.zero, i.size, i.bytes)) = some (some (.int .u8 0), 1, 1) by kernel_rfl)
  have u28 := Try.underlying28
  have u38 := Try.underlying38
  go_enter Try.func24, Try.ntmps24
  go_wp2_with (go_at_call 29; refine (bld_copy b p v _ hb hp).mono ?_)
  rintro e w1 ⟨rfl, hb1, hw1⟩
  have hk1 : BKeep B b w w1 := by
    rcases hw1 with rfl | rfl
    · exact ⟨Nat.le_refl _, fun _ _ _ => rfl, fun x _ => Below.refl _ _⟩
    · exact ⟨by simp [World.setCell], fun i _ h => Below.heap_setCell w ⟨b, 0, none⟩ _ i h, fun x hx => (Below.refl x w).setCell (p := ⟨b, 0, none⟩) hx _⟩
  have hown1 : w1.ownsRow B 5 1 v bs.length bs := by
    rcases hw1 with rfl | rfl
    · exact hown
    · exact hown.kept (row := some b) ⟨rfl, rfl, rfl, by simp [World.setCell], fun k _ hk => Below.heap_setCell _ _ _ _ (fun e => hk (by simp [e]))⟩ (Or.inr (Lib.ownBlock_ne hown hb (by decide)))
  have c1 : w1.cell? ⟨b, 1, none⟩ = some v := (blk_cell hb1 1).trans rfl
  go_wp2_with (at_builtin; refine wpList_append_own _ rfl _ _ 28 rfl B 5 i0 (.int .u8 0) 1 1 Try.underlying28 hi hz0 hz1 hz2 rfl (by decide) _ _ _ rfl (hown1.alloc _) ⟨w1.heap.size, 0, none⟩ 1 1 [.int .u8 c] rfl rfl ?c1 ?c2 ?c3 ?c4 ?c5 ?_)
  case c1 =>
    intro j u hj
    match j, hj with
    | 0, hj => simp at hj; subst hj; simp [Addr.add]
  case c2 => intro u hu; simp at hu; subst hu; rfl
  case c3 => unfold maxLen; omega
  case c4 => omega
  case c5 => have := hk1.1; simp; omega
  intro v' w2 hown' hgrow _
  have hne := Lib.ownBlock_ne hown1 hb1 (by decide)
  have hlt : b < w1.heap.size := by have := hk1.1; omega
  have hb2 : w2.heap[b]? = some (.cells #[.pointer (some ⟨b, 0, none⟩), v] 38 (0, 0)) := by
    rw [hgrow.block b (by simp; omega) (fun e => hne e.symm), Lib.alloc_old w1 _ b hlt]
    exact hb1
  have d0 : w2.cell? ⟨b, 0, none⟩ = some (.pointer (some ⟨b, 0, none⟩)) := by rw [Lib.cell_of_heap hb2]; rfl
  have d1 : w2.cell? ⟨b, 1, none⟩ = some v := by rw [Lib.cell_of_heap hb2]; rfl
  have f1 : w2.frozen? ⟨b, 1, none⟩ = false := Lib.frozen_of_heap hb2 1
  have hlt' : ∀ k, v.ownBlock = some k → B ≤ k := fun k hk => (hown1.lt k hk).1
  obtain ⟨g, cap, rfl⟩ : ∃ g cap, v' = .slice (some ⟨g, 0, none⟩) (bs.length + 1) cap := by
    rcases hown'.2 with ⟨_, h0⟩ | ⟨g, cap, cur, hv, _⟩
    · omega
    · exact ⟨g, cap, hv⟩
  go_wp2
  go_ret
  have hown2 : w2.ownsRow B 5 1 (.slice (some ⟨g, 0, none⟩) (bs.length + 1) cap) (bs ++ [Value.int .u8 c]).length (bs ++ [Value.int .u8 c]) := by simpa using hown'
  refine ⟨rfl, _, blk_put hb2 1 _ rfl, ?_, ?_, ?_, ?_⟩
  · exact hown2.kept (row := some b) ⟨rfl, rfl, rfl, by simp [World.setCell], fun k _ hk => Below.heap_setCell _ _ _ _ (fun e => hk (by simp [e]))⟩ (Or.inr (Lib.ownBlock_ne hown2 hb2 (by decide)))
  · have := hk1.1; have := hgrow.size; simp [World.setCell] at *; omega
  · intro i hi hib
    have h1 : i < w1.heap.size := by have := hk1.1; omega
    rw [Below.heap_setCell w2 ⟨b, 1, none⟩ _ i hib, hgrow.block i (by simp; omega) (fun e => by have := hlt' i e.symm; omega), Lib.alloc_old w1 _ i h1]
    exact hk1.2.1 i hi hib
  · intro x hx
    have hx1 := hk1.2.2 x hx
    exact ((hx1.alloc (by have := hk1.1; omega) _).grown hgrow (by have := hk1.1; simp; omega) (fun k hk => by have := hlt' k hk; omega)).setCell (p := ⟨b, 1, none⟩) hx _
open Go.Shelf in
def lays169_ren : Go.Shelf.Ren := ⟨fun | 169 => 25 | n => n, fun | 70 => 36 | 9 => 9 | 0 => 0 | 72 => 38 | 37 => 28 | 127 => 45 | 3 => 3 | 5 => 5 | n => n, fun | n => n⟩
open Go.Shelf in
theorem lays169 : Go.Proofs.Lays.n169 Try.prog lays169_ren := {
  mixed := by kernel_rfl
  f169 := Try.func25.trans (congrArg some (by kernel_rfl))
  t0 := Try.underlying0
  a0 := Try.isAgg0
  z0 := Try.sizeOf0
  v0 := Try.zeroValue0
  t3 := Try.underlying3
  a3 := Try.isAgg3
  z3 := Try.sizeOf3
  v3 := Try.zeroValue3
  t9 := Try.underlying9
  a9 := Try.isAgg9
  z9 := Try.sizeOf9
  v9 := Try.zeroValue9
  t37 := Try.underlying28
  a37 := Try.isAgg28
  z37 := Try.sizeOf28
  v37 := Try.zeroValue28
  t70 := Try.underlying36
  a70 := Try.isAgg36
  z70 := Try.sizeOf36
  v70 := Try.zeroValue36
  t72 := Try.underlying38
  a72 := Try.isAgg38
  z72 := Try.sizeOf38
  v72 := Try.zeroValue38
  t127 := Try.underlying45
  a127 := Try.isAgg45
  z127 := Try.sizeOf45
  v127 := Try.zeroValue45 }
open Go.Shelf in
theorem bExtra169 : Builder.Extra Try.prog lays169_ren := {
  sizeBuilder := by kernel_rfl
  liesBuilder := by kernel_rfl
  t5 := Try.underlying5
  a5 := Try.isAgg5
  z5 := Try.sizeOf5
  v5 := Try.zeroValue5
  infoByte := by kernel_rfl
  cellsByte := by kernel_rfl
  sizeByte := by kernel_rfl
  neB5 := by decide }

def lowC (c : UInt8) : Bool := decide (c.toNat ≤ 32)
def keepC (c : UInt8) : Bool := c.toNat != 9 && (c.toNat != 10 && c.toNat != 13)
def tidyL (l : List UInt8) : List UInt8 := (l.dropWhile lowC).filter keepC
def scheme_tidy.f (a0 : ByteArray) : Option (ByteArray) := if a0.size ≤ 140737488351232 then some ⟨(tidyL a0.data.toList).toArray⟩ else none
theorem drop_at (s : ByteArray) (x : Int) (h0 : 0 ≤ x) (h1 : x < (s.size : Int)) : ∃ c, s.data.toList.drop x.toNat = c :: s.data.toList.drop (x + 1).toNat ∧ bt s x = (c.toNat : Int) := by
  have hl : s.data.toList.length = s.size := by simp
  have h : x.toNat < s.data.toList.length := by omega
  refine ⟨s.data.toList[x.toNat], ?_, ?_⟩
  · rw [List.drop_eq_getElem_cons h, show (x + 1).toNat = x.toNat + 1 by omega]
  · unfold bt
    rw [dif_pos (by omega)]
    rfl
theorem drop_low (s : ByteArray) (x : Int) (h0 : 0 ≤ x) (h1 : x < (s.size : Int)) (h : bt s x ≤ 32) : (s.data.toList.drop (x + 1).toNat).dropWhile lowC = (s.data.toList.drop x.toNat).dropWhile lowC := by
  obtain ⟨c, e, hb⟩ := drop_at s x h0 h1
  rw [e, List.dropWhile_cons_of_pos]
  simp [lowC]; omega
theorem drop_high (s : ByteArray) (x : Int) (h0 : 0 ≤ x) (h1 : x < (s.size : Int)) (h : 32 < bt s x) : (s.data.toList.drop x.toNat).dropWhile lowC = s.data.toList.drop x.toNat := by
  obtain ⟨c, e, hb⟩ := drop_at s x h0 h1
  rw [e, List.dropWhile_cons_of_neg]
  simp [lowC]; omega
theorem keep_yes (l : List UInt8) (j : Nat) (c : UInt8) (h : l[j]? = some c) (h1 : (c.toNat : Int) ≠ 9) (h2 : (c.toNat : Int) ≠ 10) (h3 : (c.toNat : Int) ≠ 13) : (l.take (j + 1)).filter keepC = (l.take j).filter keepC ++ [c] := by
  rw [List.take_add_one, h]
  have : keepC c = true := by simp [keepC]; omega
  simp [List.filter_append, this]
theorem keep_no (l : List UInt8) (j : Nat) (c : UInt8) (h : l[j]? = some c) (h1 : (c.toNat : Int) = 9 ∨ (c.toNat : Int) = 10 ∨ (c.toNat : Int) = 13) : (l.take (j + 1)).filter keepC = (l.take j).filter keepC := by
  rw [List.take_add_one, h]
  have : keepC c = false := by simp [keepC]; omega
  simp [List.filter_append, this]
theorem BKeep.trans {B b : Nat} {w w1 w2 : World} (h : BKeep B b w w1) (hb : b < B) (k : BKeep B b w1 w2) : BKeep B b w w2 :=
  ⟨Nat.le_trans h.1 k.1, fun i h1 h2 => (k.2.1 i h1 h2).trans (h.2.1 i h1 h2), fun x hx => (h.2.2 x hx).trans (k.2.2 x hx)⟩
theorem BKeep.bytes_le {b : Nat} {w3 wr : World} {s : ByteArray} (h : BKeep (w3.heap.size + 1) b (Lib.bytesWorld w3 5 s) wr) : w3.heap.size + 1 ≤ wr.heap.size := by
  have := h.1
  rw [Lib.bytesWorld_size] at this
  exact this
theorem keepN_le (l : List UInt8) (j : Nat) : (Lib.byteCells ((l.take j).filter keepC)).length ≤ j := by
  rw [Lib.byteCells_length]
  exact Nat.le_trans (List.length_filter_le _ _) (by rw [List.length_take]; omega)
theorem keepN_snoc (l : List UInt8) (j : Nat) (c : UInt8) (n : Int) (hn : n = (c.toNat : Int)) (h : l[j]? = some c) (h1 : n ≠ 9) (h2 : n ≠ 10) (h3 : n ≠ 13) : Lib.byteCells ((l.take (j + 1)).filter keepC) = Lib.byteCells ((l.take j).filter keepC) ++ [Value.int .u8 n] := by
  subst hn
  rw [keep_yes l j c h h1 h2 h3]
  simp [Lib.byteCells]
theorem bld_string (B b : Nat) (p v : Value) (l : List UInt8) (w : World) (hb : w.heap[b]? = some (.cells #[p, v] 38 (0, 0))) (hp : p = .pointer none ∨ p = .pointer (some ⟨b, 0, none⟩)) (hown : w.ownsRow B 5 1 v (Lib.byteCells l).length (Lib.byteCells l)) (hbB : b < B) :
    Calls Try.prog 25 #[.pointer (some ⟨b, 0, none⟩)] w fun e w' => e = .returned (.string ⟨l.toArray⟩) ∧ Below b w w' := by
  have hI : Lib.IsBuilder 38 5 b b (Lib.byteCells l) w := by
    have h2 : w.ownsRow b 5 1 v (Lib.byteCells l).length (Lib.byteCells l) := Kd.own_raise hown (fun k hk => by have := own_base hown k hk; omega)
    have h3 : v.ownBlock ≠ some b := fun e => by have := own_base hown b e; omega
    rcases hp with rfl | rfl
    · exact .inl ⟨Nat.le_refl _, v, hb, h2, h3⟩
    · exact .inr ⟨Nat.le_refl _, v, hb, h2, h3⟩
  exact Any.Builder_String_any lays169 bExtra169 b b l w hI (Nat.le_of_lt (blk_lt hb))
theorem tidyL_end (a0 : ByteArray) (x : Int) (h : a0.data.toList.drop x.toNat = a0.data.toList.dropWhile lowC) : ((a0.data.toList.drop x.toNat).take (a0.size - x.toNat)).filter keepC = tidyL a0.data.toList := by
  rw [List.take_of_length_le (by simp), h]
  rfl
theorem tidy_below (gb : Nat) (wc w3 wr w1 : World) (hg : gb = wc.heap.size) (h3 : Below wc.heap.size wc w3) (hlt : gb < w3.heap.size) (s : ByteArray) (hk : BKeep (w3.heap.size + 1) gb (Lib.bytesWorld w3 5 s) wr) (hb : Below gb wr w1) : Below wc.heap.size wc w1 := by
  subst hg
  have h4 : Below wc.heap.size wc (Lib.bytesWorld w3 5 s) := bytes_below h3 (Nat.le_of_lt hlt) 5 s
  exact (h4.trans (hk.2.2 _ (Nat.le_refl _))).trans hb
theorem tidy_cell (a0 : ByteArray) (x : Int) (w3 wr : World) (gb j : Nat) (c : UInt8) (hc : (a0.data.toList.drop x.toNat)[j]? = some c) (hg : gb < w3.heap.size) (hk : BKeep (w3.heap.size + 1) gb (Lib.bytesWorld w3 5 (a0.extract x.toNat a0.size)) wr) : wr.cell? ⟨w3.heap.size, j, none⟩ = some (.int .u8 (c.toNat : Int)) := by
  have e := Lib.extract_to_end a0 x.toNat
  have hl : j < (a0.extract x.toNat a0.size).size := by
    have h1 := (List.getElem?_eq_some_iff.1 hc).1
    rw [← e] at h1
    simpa using h1
  have h := Lib.bytesWorld_cell w3 5 (a0.extract x.toNat a0.size) j hl
  rw [e, List.getD_eq_getElem?_getD, hc] at h
  rw [show wr.cell? ⟨w3.heap.size, j, none⟩ = (Lib.bytesWorld w3 5 (a0.extract x.toNat a0.size)).cell? ⟨w3.heap.size, j, none⟩ by simp only [World.cell?, hk.2.1 w3.heap.size (by omega) (by omega)]]
  exact h
set_option maxHeartbeats 8000000 in
set_option maxRecDepth 100000 in
theorem scheme_tidy.calls (a0 : ByteArray) (r : ByteArray) (w : World) (h : scheme_tidy.f a0 = some r) :
    Calls Try.prog 14 #[.string a0] w fun e w' => e = .returned (.string r) ∧ Below w.heap.size w w' := by
  obtain ⟨hs, rfl⟩ : a0.size ≤ 140737488351232 ∧ (⟨(tidyL a0.data.toList).toArray⟩ : ByteArray) = r := by
    unfold scheme_tidy.f at h
    split at h
    · next hs => exact ⟨hs, by simpa using h⟩
    · simp at h
  clear h
  have hcv := fun W s => Lib.run_convert_string_bytes (P := Try.prog) W 9 28 5 s Try.underlying9 Try.underlying28 Try.underlying5
  go_enter Try.func14, Try.ntmps14
  go_upto_block 0 with (fail)
  go_cut [3] (fun v3 wc => ∃ x : Int, 0 ≤ x ∧ x ≤ (a0.size : Int) ∧ v3 = .int .i64 x ∧ Aside0 (wc = w) ∧ Aside0 (a0.data.toList.drop x.toNat = a0.data.toList.dropWhile lowC))
  case first =>
    go_wp2
    go_loopw [3] (fun i wr => ∃ x : Int, 0 ≤ x ∧ x ≤ (a0.size : Int) ∧ i = .int .i64 x ∧ wr = w ∧ (a0.data.toList.drop x.toNat).dropWhile lowC = a0.data.toList.dropWhile lowC) (fun i _ => a0.size - (intOf i).toNat)
    case atStart => exact ⟨0, by omega, by omega, rfl, by first | rfl | trivial, rfl⟩
    case round =>
      obtain ⟨x, hx0, hx1, rfl, rfl, hdw⟩ := hrel
      have HD := Aside0.mk hdw
      clear hdw
      by_cases hlt : x < (a0.size : Int)
      · have cq : decide (x < (a0.size : Int)) = true := decide_eq_true hlt
        have hx := bt_at a0 x
        have p_ : (0 ≤ x) = True := eq_true hx0
        have q_ : (x < (a0.size : Int)) = True := eq_true hlt
        by_cases c1 : bt a0 x ≤ 32
        · have c1b : decide (bt a0 x ≤ 32) = true := decide_eq_true c1
          go_wp2
          go_roundw
          case rel => exact ⟨x + 1, by omega, by omega, by go_num, by first | rfl | trivial, (drop_low a0 x hx0 hlt c1).trans HD.out⟩
          case measure => simp [intOf]; omega
        · have c1b : decide (bt a0 x ≤ 32) = false := decide_eq_false c1
          go_wp2
          go_meet
          case rel => exact ⟨_, hx0, hx1, rfl, ⟨by first | rfl | trivial⟩, ⟨(drop_high a0 x hx0 hlt c1).symm.trans HD.out⟩⟩
      · have cq : decide (x < (a0.size : Int)) = false := decide_eq_false hlt
        go_wp2
        go_meet
        case rel => exact ⟨_, hx0, hx1, rfl, ⟨by first | rfl | trivial⟩, ⟨by rw [← HD.out, List.drop_of_length_le (by simp; omega)]; rfl⟩⟩
  case rest =>
    obtain ⟨x, hx0, hx1, rfl, hw, HD⟩ := hcut
    have hw' := hw.out
    subst hw'
    clear hw
    go_wp2_with (first | ((with_reducible refine gate_dst (N := 4) rfl ?_); refine box_event ?hg (N := 4) ?hd (cs := #[.pointer none, .slice none 0 0]) (t := 38) ?hr ?_; (case hd => rfl); (case hg => rfl); (case hr => first | (go_simp; done) | (go_simp; rfl)); intro gb hg w3 hbox hb; have BK := Aside0.mk hbox; have HB3 := Aside0.mk hb; have GE := Aside0.mk hg; clear hbox hb hg))
    go_loopw [24] (fun i wr => ∃ (j : Nat) (p v : Value), j ≤ (a0.size - x.toNat) ∧ i = .int .i64 j ∧ Aside0 (wr.heap[gb]? = some (.cells #[p, v] 38 (0, 0))) ∧ Aside0 (p = .pointer none ∨ p = .pointer (some ⟨gb, 0, none⟩)) ∧ Aside0 (wr.ownsRow (w3.heap.size + 1) 5 1 v (Lib.byteCells (((a0.data.toList.drop x.toNat).take j).filter keepC)).length (Lib.byteCells (((a0.data.toList.drop x.toNat).take j).filter keepC))) ∧ Aside0 (BKeep (w3.heap.size + 1) gb (Lib.bytesWorld w3 5 (a0.extract x.toNat a0.size)) wr)) (fun i _ => a0.size - x.toNat - (intOf i).toNat)
    case atStart => exact ⟨0, .pointer none, .slice none 0 0, Nat.zero_le _, by go_num, ⟨by rw [Lib.bytesWorld_at_old _ _ _ _ (blk_lt BK.out)]; exact BK.out⟩, ⟨.inl rfl⟩, ⟨own_nil _ _ _ _⟩, ⟨Nat.le_refl _, fun _ _ _ => rfl, fun _ _ => Below.refl _ _⟩⟩
    case round =>
      obtain ⟨j, p, v, hj, rfl, HBk, HP, HO, HK⟩ := hrel
      by_cases hlt : j < a0.size - x.toNat
      · obtain ⟨c, hc⟩ : ∃ c, (a0.data.toList.drop x.toNat)[j]? = some c := ⟨_, List.getElem?_eq_getElem (by simp; omega)⟩
        have hcell : wr.cell? ⟨w3.heap.size, j, none⟩ = some (.int .u8 (c.toNat : Int)) := tidy_cell a0 x w3 wr gb j c hc (blk_lt BK.out) HK.out
        have HC := Aside0.mk hc
        clear hc
        obtain ⟨n, hn⟩ : ∃ n : Int, n = (c.toNat : Int) := ⟨_, rfl⟩
        rw [← hn] at hcell
        have HN := Aside0.mk hn
        have hn0 : 0 ≤ n := by omega
        have hn1 : n ≤ 255 := by have := c.toNat_lt; omega
        clear hn
        by_cases h9 : n = 9
        · have b9 : (n != 9) = false := bne_eq_false_iff_eq.mpr h9
          have H9 := Aside0.mk h9
          clear h9
          go_wp2
          go_roundw
          case rel => exact ⟨j + 1, p, v, by omega, by go_num, HBk, HP, ⟨by rw [keep_no _ j c HC.out (by rw [← HN.out]; exact .inl H9.out)]; exact HO.out⟩, HK⟩
          case measure => simp [intOf]; omega
        have b9 : (n != 9) = true := bne_iff_ne.mpr h9
        have N9 := Aside0.mk h9
        clear h9
        by_cases h10 : n = 10
        · have b10 : (n != 10) = false := bne_eq_false_iff_eq.mpr h10
          have H10 := Aside0.mk h10
          clear h10
          go_wp2
          go_roundw
          case rel => exact ⟨j + 1, p, v, by omega, by go_num, HBk, HP, ⟨by rw [keep_no _ j c HC.out (by rw [← HN.out]; exact .inr (.inl H10.out))]; exact HO.out⟩, HK⟩
          case measure => simp [intOf]; omega
        have b10 : (n != 10) = true := bne_iff_ne.mpr h10
        have N10 := Aside0.mk h10
        clear h10
        by_cases h13 : n = 13
        · have b13 : (n != 13) = false := bne_eq_false_iff_eq.mpr h13
          have H13 := Aside0.mk h13
          clear h13
          go_wp2
          go_roundw
          case rel => exact ⟨j + 1, p, v, by omega, by go_num, HBk, HP, ⟨by rw [keep_no _ j c HC.out (by rw [← HN.out]; exact .inr (.inr H13.out))]; exact HO.out⟩, HK⟩
          case measure => simp [intOf]; omega
        have b13 : (n != 13) = true := bne_iff_ne.mpr h13
        have N13 := Aside0.mk h13
        clear h13
        go_wp2_with (go_at_call 24; (with_reducible refine (bld_byte (w3.heap.size + 1) gb p v _ n _ HBk.out HP.out HO.out ?side1 ?side2 ?side3).mono ?_); (case side1 => have := blk_lt BK.out; omega); (case side2 => exact HK.out.bytes_le); (case side3 => have := keepN_le (a0.data.toList.drop x.toNat) j; omega); rintro e w1 ⟨rfl, hx⟩; have HX := Aside0.mk hx; clear hx)
        obtain ⟨v', hb', ho', hk'⟩ := HX.out
        have HB' := Aside0.mk hb'
        have HO' := Aside0.mk ho'
        have HK' := Aside0.mk hk'
        clear hb' ho' hk' HX
        go_wp2
        go_roundw
        case rel => exact ⟨j + 1, _, v', by omega, by go_num, HB', ⟨.inr rfl⟩, ⟨by rw [keepN_snoc _ j c n HN.out HC.out N9.out N10.out N13.out]; exact HO'.out⟩, ⟨HK.out.trans (Nat.lt_succ_of_lt (blk_lt BK.out)) HK'.out⟩⟩
        case measure => simp [intOf]; omega
      · obtain rfl : j = a0.size - x.toNat := by omega
        have HO' := Aside0.mk (show wr.ownsRow (w3.heap.size + 1) 5 1 v (Lib.byteCells (tidyL a0.data.toList)).length (Lib.byteCells (tidyL a0.data.toList)) from by have := HO.out; rwa [tidyL_end a0 x HD.out] at this)
        clear HO
        go_wp2_with (go_at_call 25; (with_reducible refine (bld_string (w3.heap.size + 1) gb p v (tidyL a0.data.toList) _ HBk.out HP.out HO'.out (Nat.lt_succ_of_lt (blk_lt BK.out))).mono ?_); rintro e w1 ⟨rfl, hb⟩; have HBX := Aside0.mk hb; clear hb)
        go_ret
        exact ⟨rfl, tidy_below gb wc w3 wr w1 GE.out HB3.out (blk_lt BK.out) (a0.extract x.toNat a0.size) HK.out HBX.out⟩


end Go.Proofs.Ythomonglhieifaa.PAll
