import Derived.Test.YtjfkenjmjoncbaaPAllx0
import Derived.Test.YtjfkenjmjoncbaaPAllx8
import Derived.Test.YtjfkenjmjoncbaaLgWalk1
namespace Go.Proofs.Ytjfkenjmjoncbaa.Lg
open Go Go.Maps Go.WideShapes Go.RowKit Go.Proofs.Ytjfkenjmjoncbaa.PAll Go.Proofs.YtjfkenjmjoncbaaW.PrintWords Go.Proofs.YtjfkenjmjoncbaaW.PrintLast Go.Proofs.YtjfkenjmjoncbaaW.PrintMore
set_option linter.unusedVariables false
set_option linter.unusedSimpArgs false

/-! Rows of pairs: their bytes may be written, and lie in blocks from B on. -/
def kP (B : Nat) : Kd S52 where
  sz := 2
  E := []
  K := fun w x cs => k52.K w x cs ∧ ∀ ad n c, cs[1]? = some (.slice (some ad) n c) → 0 < n → B ≤ ad.block ∧ ∀ k, k < n → w.frozen? (ad.add k) = false
  M := fun _ _ _ _ _ => False
  K_len := fun h => k52.K_len h.1
  K_one := fun h => k52.K_one h.1
  K_below := fun {w w1 x cs} hb h => by
    refine ⟨k52.K_below hb h.1, fun ad n c hc hn => ?_⟩
    obtain ⟨A, c', rfl, hl, hC⟩ := k52_open h.1
    simp only [List.getElem?_cons_succ, List.getElem?_cons_zero, Option.some.injEq, Value.slice.injEq] at hc
    obtain ⟨rfl, rfl, rfl⟩ := hc
    obtain ⟨h1, h2⟩ := h.2 ad _ _ rfl hn
    refine ⟨h1, fun k hk => ?_⟩
    obtain ⟨ad', e, hcell⟩ := Kd.at_int hC (k : Int) (by omega) (by omega)
    cases e
    have := World.block_lt_of_cell? w _ hcell
    simp only [Int.toNat_natCast] at this
    rw [hb.frozen this]
    exact h2 k hk
  K_of_M := fun h => h.elim
  M_mono := fun _ h => h
  M_bound := fun h => h
  M_move := fun _ h => h
  M_lower := fun _ h => h
/-- a row of bytes that may be written: what it leads to lies in ok -/
def Bts (w : World) (ok : Nat → Prop) (B : Nat) (u : Value) (bs : List Int) : Prop :=
  ∃ A c, u = .slice A bs.length c ∧ bs.length ≤ c ∧ Foot (fun W => (Kd.int .u8).C W A bs.length bs ∧ ∀ ad, A = some ad → 0 < bs.length → B ≤ ad.block ∧ ∀ k, k < bs.length → W.frozen? (ad.add k) = false) w ok
theorem Bts.fk {w : World} {ok : Nat → Prop} {B : Nat} {u : Value} {bs : List Int} (h : Bts w ok B u bs) (x : Int) : Kd.FK (kP B) w ok ⟨x, bs⟩ [.int .u64 x, u] := by
  obtain ⟨A, c, rfl, hl, hF⟩ := h
  intro W' hW
  obtain ⟨h1, h2⟩ := hF W' hW
  refine ⟨k52_mk W' ⟨x, bs⟩ hl h1, fun ad n c' hc hn => ?_⟩
  simp only [List.getElem?_cons_succ, List.getElem?_cons_zero, Option.some.injEq, Value.slice.injEq] at hc
  obtain ⟨rfl, rfl, rfl⟩ := hc
  exact h2 ad rfl hn
theorem Bts.mono {w : World} {ok ok' : Nat → Prop} {B : Nat} {u : Value} {bs : List Int} (h : Bts w ok B u bs) (hk : ∀ k, ok k → ok' k) : Bts w ok' B u bs := by
  obtain ⟨A, c, e, hl, hF⟩ := h
  exact ⟨A, c, e, hl, Foot.mono hF hk⟩
theorem Bts.below {w w1 : World} {ok : Nat → Prop} {B : Nat} {u : Value} {bs : List Int} (h : Bts w ok B u bs) (hb : Below w.heap.size w w1) : Bts w1 ok B u bs := by
  obtain ⟨A, c, e, hl, hF⟩ := h
  exact ⟨A, c, e, hl, Foot.step hF (fun k _ hk => hb.block k hk)⟩
theorem Bts.base {w : World} {ok : Nat → Prop} {B B' : Nat} {u : Value} {bs : List Int} (h : Bts w ok B u bs) (hB : B' ≤ B) : Bts w ok B' u bs := by
  obtain ⟨A, c, e, hl, hF⟩ := h
  exact ⟨A, c, e, hl, fun W' hW => ⟨(hF W' hW).1, fun ad ea hn => ⟨Nat.le_trans hB ((hF W' hW).2 ad ea hn).1, ((hF W' hW).2 ad ea hn).2⟩⟩⟩
/-- a row of the call's own -/
theorem Bts.own {w : World} {ok : Nat → Prop} {B : Nat} {u : Value} {bs : List Int} (h : (Kd.int .u8).R 5 w B ok u bs) : Bts w (fun k => B ≤ k) B u bs := by
  obtain ⟨A, c, rfl, hl, _⟩ := Kd.R_reads h
  have hbs := Kd.R_base h
  refine ⟨A, c, rfl, hl, fun W' hW => ?_⟩
  have h2 := Kd.R_step (w1 := W') (Kd.R_mono (Kd.R_bound h) (fun k hk => hk)) (fun k hk hlt => hW k hk.2.1 hlt)
  refine ⟨(Kd.R_reads' h2).2.2, fun ad ea hn => ?_⟩
  obtain ⟨inner, ho⟩ := Kd.R_own h2
  rcases ho.2 with ⟨e, _⟩ | ⟨g, cap, cur, e, hg, hh, _⟩
  · injection e with eA en ec
    rw [eA] at ea
    cases ea
  · injection e with eA en ec
    rw [eA] at ea
    cases ea
    exact ⟨hg, fun k _ => by rw [Go.Proofs.YtjfkenjmjoncbaaW.PrintWords.add_plain]; exact blk_frozen hh k⟩
/-- the bytes of a text -/
theorem Bts.text (w : World) (s : ByteArray) (hs : s.size ≤ 2000) {B : Nat} (hB : B ≤ w.heap.size) : Bts (Lib.bytesWorld w 5 s) (fun k => k = w.heap.size) B (.slice (some ⟨w.heap.size, 0, none⟩) s.size (grownCap w s.size 0 5)) (bytesOf s) := by
  have hc := grownCap_ge w s.size 0 5
  refine ⟨some ⟨w.heap.size, 0, none⟩, grownCap w s.size 0 5, by rw [bytesOf_length], by rw [bytesOf_length]; exact hc, fun W' hW => ?_⟩
  have hblk : W'.heap[w.heap.size]? = (Lib.bytesWorld w 5 s).heap[w.heap.size]? := hW _ rfl (by rw [Lib.bytesWorld_size]; omega)
  have hnew := Lib.bytesWorld_at_new w 5 s
  refine ⟨?_, fun ad ea hn => ?_⟩
  · have h1 := bytes_reads w 5 s (by omega)
    refine Kd.C_of_reads (enc := Value.int .u8) (d := (0 : Int)) (h1 := fun _ => rfl) ⟨rfl, by rw [bytesOf_length]; omega, fun hn => ?_⟩
    rw [bytesOf_length] at hn ⊢
    obtain ⟨ad, e, hc⟩ := h1.2.2 hn
    cases e
    refine ⟨_, rfl, fun j hj => ?_⟩
    rw [World.cell?_of_block (w := Lib.bytesWorld w 5 s) (w' := W') (by rw [Go.Proofs.YtjfkenjmjoncbaaW.PrintWords.add_plain]; exact hblk)]
    exact hc j hj
  · cases ea
    refine ⟨hB, fun k hk => ?_⟩
    rw [Go.Proofs.YtjfkenjmjoncbaaW.PrintWords.add_plain]
    rw [bytesOf_length] at hk
    rw [World.frozen?]
    simp only [hblk, hnew]
    have : s.size ≤ (Lib.bytesCells w 5 s).size := by simp [Lib.bytesCells]
    simp
    omega
theorem put_is {x : Int} (h : 0 ≤ x ∧ x ≤ 18446744073709551615) (l : List Int) (hl : l.length ≤ 1000) : ledger_put.f 9 l x = some (l ++ be8 x) := by
  have e : ∀ i : Nat, i < 8 → shr .u64 x ((8 * i : Nat) : Int) % 256 = ((x.toNat / 256 ^ i % 256 : Nat) : Int) := fun i hi => by
    unfold shr
    have h1 : min ((8 * i : Nat) : Int).toNat IntKind.u64.bits = 8 * i := by
      simp only [Int.toNat_natCast]
      exact Nat.min_eq_left (by simp [IntKind.bits]; omega)
    rw [h1]
    have h2 : (x : Int) = ((x.toNat : Nat) : Int) := by omega
    rw [h2]
    have h3 : (2 : Nat) ^ (8 * i) = 256 ^ i := by rw [Nat.pow_mul]
    have h4 : ((2 : Int) ^ (8 * i)) = ((256 ^ i : Nat) : Int) := by rw [← h3]; push_cast; rfl
    rw [h4, ← Int.natCast_ediv]
    simp only [Int.toNat_natCast]
    exact (Int.natCast_emod _ 256).symm
  have w8 : ∀ i : Nat, i ≤ 8 → wrap64 (((8 * i : Nat) : Int) - 8) = ((8 * i : Nat) : Int) - 8 := fun i hi => by unfold wrap64; omega
  have step : ∀ (i : Nat) (k : Nat) (acc : List Int), i < 8 → acc.length ≤ 1000 + 8 → ledger_put.l0 (k + 1) acc x ((8 * i : Nat) : Int) = ledger_put.l0 k (acc ++ [((x.toNat / 256 ^ i % 256 : Nat) : Int)]) x (((8 * i : Nat) : Int) - 8) := fun i k acc hi hacc => by
    rw [ledger_put.l0, if_pos (by omega), if_pos (by omega), if_pos (by omega), e i hi, w8 i (by omega)]
  unfold ledger_put.f be8
  rw [show (56 : Int) = ((8 * 7 : Nat) : Int) by decide, step 7 8 _ (by omega) (by omega), show (((8 * 7 : Nat) : Int) - 8) = ((8 * 6 : Nat) : Int) by decide, step 6 7 _ (by omega) (by simp; omega), show (((8 * 6 : Nat) : Int) - 8) = ((8 * 5 : Nat) : Int) by decide,
    step 5 6 _ (by omega) (by simp; omega), show (((8 * 5 : Nat) : Int) - 8) = ((8 * 4 : Nat) : Int) by decide, step 4 5 _ (by omega) (by simp; omega), show (((8 * 4 : Nat) : Int) - 8) = ((8 * 3 : Nat) : Int) by decide, step 3 4 _ (by omega) (by simp; omega), show (((8 * 3 : Nat) : Int) - 8) = ((8 * 2 : Nat) : Int) by decide,
    step 2 3 _ (by omega) (by simp; omega), show (((8 * 2 : Nat) : Int) - 8) = ((8 * 1 : Nat) : Int) by decide, step 1 2 _ (by omega) (by simp; omega), show (((8 * 1 : Nat) : Int) - 8) = ((8 * 0 : Nat) : Int) by decide, step 0 1 _ (by omega) (by simp; omega)]
  rw [ledger_put.l0, if_neg (by decide)]
  simp [be, List.append_assoc]
theorem step_append_str {P : Program} {ops : Array Oper} {o : Oper} {a : Act} {w : World} {K : Act → World → Prop} {Q : Exit → Act → World → Prop} {E : Prop} (base : Nat) (hgd : o.guard = none) (sl x : Operand) (t u e : TypeId)
    (ho : o.op = .call { callee := .builtin .append, args := #[sl, x], argTypes := #[t, u] })
    (ht : P.underlying t = some (.slice e)) (hu : P.underlying u = some .string) (hinfo : (P.info? e).map (fun i => (i.zero, i.size, i.bytes)) = some (some (.int .u8 0), 1, 1))
    (v : Value) (xs : List Int) (y : ByteArray) (hs : a.eval sl = v) (hx : a.eval x = .string y)
    (HO : w.ownsRow base e 1 v xs.length (Go.Proofs.YtjfkenjmjoncbaaW.PrintWords.nums .u8 xs)) (hbase : base ≤ w.heap.size) (hl : xs.length + y.size ≤ 140737488355328)
    (h : ∀ v1 w1, w1.ownsRow base e 1 v1 (xs ++ bytesOf y).length (Go.Proofs.YtjfkenjmjoncbaaW.PrintWords.nums .u8 (xs ++ bytesOf y)) → w.grownBy w1 v.ownBlock → K (a.put o.dst v1) w1) :
    if Region.wanted o (yielded ops a.tmps) = true then Oper.wp P o a w K Q else E := by
  rw [if_pos (by simp [Region.wanted, hgd])]
  obtain ⟨i0, hi, hzz⟩ := Option.map_eq_some_iff.1 hinfo
  simp only [Prod.mk.injEq] at hzz
  obtain ⟨hz0, hz1, hz2⟩ := hzz
  obtain ⟨v', w', hr, h2, h3, h4⟩ := Lib.run_append_own_string (P := P) w base t u o.type e i0 ht hu hi hz0 hz1 hz2 v xs.length (Go.Proofs.YtjfkenjmjoncbaaW.PrintWords.nums .u8 xs) HO y (by simp only [maxLen]; omega) hl hbase
  unfold Oper.wp execOp
  simp only [ho, resolve, invoke, builtin, Sem.run_bind, Sem.run_pure, Result.andThen_ok, List.map_toArray, List.map_cons, List.map_nil, hs, hx, hr]
  refine h v' w' ?_ h3
  have hl2 : (xs ++ bytesOf y).length = xs.length + y.size := by rw [List.length_append, bytesOf_length]
  have hc : Go.Proofs.YtjfkenjmjoncbaaW.PrintWords.nums .u8 (xs ++ bytesOf y) = Go.Proofs.YtjfkenjmjoncbaaW.PrintWords.nums .u8 xs ++ Lib.strCells y := by
    rw [nums_append]
    congr 1
    simp [Go.Proofs.YtjfkenjmjoncbaaW.PrintWords.nums, bytesOf, Lib.strCells]
  rw [hl2, hc]
  exact h2
end Go.Proofs.Ytjfkenjmjoncbaa.Lg
