import Derived.Test.YtjfkenjmjoncbaaPAllx0
import Derived.Test.YtjfkenjmjoncbaaLgWorld
import Derived.Carry
import Derived.Maps.RangeWalk
import Derived.Maps.OwnSet
import Derived.StillTailTactics
import Derived.Deep.RegionLaw
import Derived.Deep.AppendLies
namespace Go.Proofs.Ytjfkenjmjoncbaa.Lg
open Go Go.Maps Go.WideShapes Go.RowKit Go.Proofs.Ytjfkenjmjoncbaa.PAll Go.Proofs.YtjfkenjmjoncbaaW.PrintWords Go.Proofs.YtjfkenjmjoncbaaW.PrintLast Go.Proofs.YtjfkenjmjoncbaaW.PrintMore
set_option linter.unusedVariables false
set_option linter.unusedSimpArgs false

theorem law24 : Keyed Try.prog 24 := int_keyed Try.underlying24
theorem Led.cells {w : World} {B g b n : Nat} {v : Value} {L : LG} (h : Led w B g b n v L) :
    (w.cell? ⟨g, 0, none⟩ = some (.map (some b)) ∧ w.cell? ⟨g, 1, none⟩ = some v ∧ w.cell? ⟨g, 2, none⟩ = some (.int .u64 L.next) ∧ w.cell? ⟨g, 3, none⟩ = some (.int .u64 L.cur)) ∧ ∀ i, w.frozen? ⟨g, i, none⟩ = false :=
  ⟨⟨blk_cell h.blk 0, blk_cell h.blk 1, blk_cell h.blk 2, blk_cell h.blk 3⟩, fun i => blk_frozen h.blk i⟩
set_option maxHeartbeats 1000000 in
set_option maxRecDepth 100000 in
/-- New (23) -/
theorem New_calls (w : World) : Calls Try.prog 23 #[] w fun e w' => ∃ g b, e = .returned (.pointer (some ⟨g, 0, none⟩)) ∧ Led w' w.heap.size g b 0 (.slice none 0 0) LG.empty ∧ Below w.heap.size w w' := by
  have hmm := @run_makeMap Try.prog
  go_enter Try.func23, Try.ntmps23
  go_wp2
  go_ret
  have hs : (w.alloc (.map #[] 0)).heap.size = w.heap.size + 1 := by simp
  have k1 := (MapKept.heap_alloc (w.alloc (.map #[] 0)) (.cells (lcells w.heap.size (.slice none 0 0) LG.empty) 69)).1
  rw [hs] at k1
  refine ⟨_, w.heap.size, rfl, ⟨k1, (World.ownsMap_made w Try.prog 24 postR).alloc _, World.ownsRow_nil _ _ _ _, by omega, Nat.le_refl _, LG.empty_ok⟩, ?_⟩
  exact (show Below w.heap.size w (w.alloc (.map #[] 0)) from (Below.refl _ w).alloc (Nat.le_refl _) _).alloc (by rw [hs]; omega) _
set_option maxHeartbeats 1000000 in
set_option maxRecDepth 100000 in
/-- newest (26) -/
theorem newest_calls {w : World} {B g b n : Nat} {v : Value} {L : LG} (h : Led w B g b n v L) : Calls Try.prog 26 #[.pointer (some ⟨g, 0, none⟩)] w fun e w' => e = .returned (.int .u64 L.newest) ∧ w' = w := by
  obtain ⟨⟨h0, h1, h2, h3⟩, hf⟩ := h.cells
  obtain ⟨A, c, rfl, hc⟩ := h.slice
  have hp := h.ok.pols
  clear h
  have hw : (IntKind.u64.wrap (L.pols.length : Int)) = L.newest := by unfold LG.newest; simp [IntKind.wrap, IntKind.bits, IntKind.signed]; omega
  go_enter Try.func26, Try.ntmps26
  go_wp2
  go_ret
  exact ⟨rfl, rfl⟩
theorem zero42 (w : World) : (zeroValue 42).run Try.prog w = .ok (postV zeroP) w := by kernel_rfl
def LG.get (L : LG) (id : Int) : LP := (L.posts.find? (fun p => p.id == id)).getD zeroP
def LG.is (L : LG) (id : Int) : Bool := L.posts.any (fun p => p.id == id)
theorem get_at {L : LG} {id : Int} {v : Value} {ps : List MemPlace} (h : postR v = some ((mapD L.posts).atKey (.int .u64 id) (pd zeroP), ps)) : v = postV (L.get id) := by
  obtain ⟨p, rfl⟩ := postR_inv _ _ h
  rw [postR_mk, mapD_at] at h
  simp only [Option.some.injEq, Prod.mk.injEq] at h
  have h1 := h.1
  unfold LG.get
  cases hf : L.posts.find? (fun p => p.id == id) with
  | none => rw [hf] at h1; rw [pd_inj h1]; rfl
  | some q => rw [hf] at h1; rw [pd_inj h1]; rfl
theorem wf64 {x : Int} (h : 0 ≤ x ∧ x ≤ 18446744073709551615) : (Lit.int .u64 x).wf = true := by
  have e1 : IntKind.u64.min = 0 := by decide
  have e2 : IntKind.u64.max = 18446744073709551615 := by decide
  simp only [Lit.wf, e1, e2, Bool.and_eq_true, decide_eq_true_eq]
  exact h

theorem region_tail {P : Program} {id : Nat} {Q : Exit → Act → World → Prop} {a : Act} {w : World} {l : List Oper} (n : Nat) (hm : P.follows .mixedOrders = true) (hB : Region.lexTailB .any l.toArray n = true)
    (h : wpStill P l.toArray w.drew (fun a' => wpList P l.toArray Q (l.drop n) a' w.drew) (l.take n) a) : (Code.region id l.toArray true).wp P Q a w := wp_region_still_tail n hm hB h
theorem still_len {ops : Array Oper} {o : Oper} {rest : List Oper} {a : Act} {w : World} {Q : Act → Prop} (hg : o.guard = none) (m : Operand)
    (hop : o.op = Op.call { callee := Callee.builtin Builtin.len, args := #[m], argTypes := #[67] }) {b n : Nat} {l : List LP} (hm : a.eval m = .map (some b)) (hown : w.ownsMap Try.prog 24 postR b n (mapD l))
    (h : wpStill Try.prog ops w Q rest (a.put o.dst (.int .i64 l.length))) : wpStill Try.prog ops w Q (o :: rest) a := by
  unfold wpStill
  rw [if_pos (by simp [Region.wanted, hg])]
  have hl := hown.len Try.underlying67 o.type
  rw [mapD_size] at hl
  unfold Oper.still
  simp [execOp, hop, resolve, invoke, builtin, hm, hl, Result.andThen, Oper.stillUpon]
  exact h
section
variable {ops : Array Oper} {rest : List Oper} {o : Oper} {a : Act} {Q : Exit → Act → World → Prop}
theorem wp_look_ok (w : World) (hg : o.guard = none) (m x : Operand) (hop : o.op = Op.lookup 67 m x true) {b n : Nat} {L : LG} {id : Int} (hm : a.eval m = .map (some b)) (hown : w.ownsMap Try.prog 24 postR b n (mapD L.posts))
    (hx : a.eval x = .int .u64 id) (hkey : keyOf Try.prog 24 (.int .u64 id) = some (.int .u64 id)) (hK : wpList Try.prog ops Q rest (a.put o.dst (.tuple #[.agg #[.int .u64 (L.get id).id, .int .u64 (L.get id).ver, .string (L.get id).text], .bool (L.is id)])) w) : wpList Try.prog ops Q (o :: rest) a w := by
  refine wpList_lookup_own_ok w hg m x 67 hop 24 42 law24 Try.underlying67 postR (zero42 w) (pd zeroP) [] (postR_mk zeroP) b n _ hm hown _ _ hx hkey (fun v ps hv => ?_)
  rw [get_at hv, mapD_has]
  exact hK
theorem wp_look (w : World) (hg : o.guard = none) (m x : Operand) (hop : o.op = Op.lookup 67 m x false) {b n : Nat} {L : LG} {id : Int} (hm : a.eval m = .map (some b)) (hown : w.ownsMap Try.prog 24 postR b n (mapD L.posts))
    (hx : a.eval x = .int .u64 id) (hkey : keyOf Try.prog 24 (.int .u64 id) = some (.int .u64 id)) (hK : wpList Try.prog ops Q rest (a.put o.dst (.agg #[.int .u64 (L.get id).id, .int .u64 (L.get id).ver, .string (L.get id).text])) w) : wpList Try.prog ops Q (o :: rest) a w := by
  refine wpList_plain hg fun K' hK' => ?_
  obtain ⟨v, ps, hrun, hv⟩ := hown.lookup law24 Try.underlying67 (zero42 w) (postR_mk zeroP) hkey
  unfold Oper.wp
  simp [execOp, hop, hm, hx, hrun, Result.andThen]
  rw [get_at hv]
  exact hK' _ _ hK
end
set_option maxHeartbeats 1000000 in
set_option maxRecDepth 100000 in
/-- Get (15) -/
theorem Get_calls {w : World} {B g b n : Nat} {v : Value} {L : LG} (h : Led w B g b n v L) {id : Int} (hid : 0 ≤ id ∧ id ≤ 18446744073709551615) :
    Calls Try.prog 15 #[.pointer (some ⟨g, 0, none⟩), .int .u64 id] w fun e w' => e = .returned (.tuple #[postV (L.get id), .bool (L.is id)]) ∧ Below w.heap.size w w' := by
  obtain ⟨⟨h0, h1, h2, h3⟩, hf⟩ := h.cells
  have hm := Aside0.mk h.map
  have hk := Aside0.mk (keyOf_int_mk Try.underlying24 (wf64 hid))
  have hgl : g < w.heap.size := (h.lt (.inl rfl)).2
  clear h hid
  go_enter Try.func15, Try.ntmps15
  go_wp2_with (at_lookup; refine wp_look_ok _ rfl _ _ rfl rfl (hm.out.alloc _) rfl hk.out ?_)
  refine bodyPost_ret (results_ct rfl _ _ w.heap.size 42 #[.int .u64 (L.get id).id, .int .u64 (L.get id).ver, .string (L.get id).text] (0, 0) _ rfl (blk_alloc (blk_new _ _) _) Try.underlying42 rfl (by kernel_rfl)) rfl ?_
  refine ⟨by simp [postV], ?_⟩
  repeat (first | exact Below.refl _ _ | apply below_alloc | refine below_set ?_ (by simp))
set_option maxHeartbeats 1000000 in
set_option maxRecDepth 100000 in
/-- Status (13) -/
theorem Status_calls {w : World} {B g b n : Nat} {v : Value} {L : LG} (h : Led w B g b n v L) :
    Calls Try.prog 13 #[.pointer (some ⟨g, 0, none⟩)] w fun e w' => e = .returned (.agg #[.int .u64 L.next, .int .u64 L.newest, .int .i64 L.posts.length, .int .u64 L.cur]) ∧ Below w.heap.size w w' := by
  obtain ⟨⟨h0, h1, h2, h3⟩, hf⟩ := h.cells
  have hm := h.map
  have hgl : g < w.heap.size := (h.lt (.inl rfl)).2
  have HH := Aside0.mk h
  clear h
  go_enter Try.func13, Try.ntmps13
  go_wp2
  have hm' := Aside0.mk (show (w.alloc (.cells #[.int .u64 0, .int .u64 0, .int .i64 0, .int .u64 0] 37)).drew.ownsMap Try.prog 24 postR b n (mapD L.posts) from (hm.alloc _).drew)
  have hn := Aside0.mk (newest_calls (HH.out.below (below_alloc (Below.refl _ _) (.cells #[.int .u64 0, .int .u64 0, .int .i64 0, .int .u64 0] 37)).drew))
  clear hm
  refine region_tail 16 (by kernel_rfl) (by kernel_rfl) ?_
  simp only [List.take_succ_cons, List.take_zero, List.drop_succ_cons, List.drop_zero]
  repeat still_step
  still_call hn.out
  repeat still_step
  refine still_len rfl (.tmp 15) rfl rfl hm'.out ?_
  repeat still_step
  refine wpStill_nil ?_
  go_wp2
  refine bodyPost_ret (results_single rfl (.cell w.heap.size 37 #[.int .u64 L.next, .int .u64 L.newest, .int .i64 L.posts.length, .int .u64 L.cur] (0, 0) _ rfl (blk_new _ _) Try.underlying37 rfl (by kernel_rfl) .nil)) rfl ?_
  refine ⟨rfl, ?_⟩
  repeat (first | exact Below.refl _ _ | apply below_alloc | apply Below.drew)
theorem Led.polR {w : World} {B g b n : Nat} {v : Value} {L : LG} (h : Led w B g b n v L) : Kd.string.R 9 w B (fun k => v.ownBlock = some k) v L.pols := Kd.R_of_own h.row (fun k hk => hk)
theorem Led.pol_at {w : World} {B g b n : Nat} {v : Value} {L : LG} (h : Led w B g b n v L) : ∃ (A : Option Addr) (c : Nat), v = .slice A L.pols.length c ∧ L.pols.length ≤ c ∧ ∀ i : Int, 0 ≤ i → i < L.pols.length → ∃ ad, A = some ad ∧ w.cell? (ad.add i.toNat) = some (.string (rdOf ByteArray.empty L.pols i)) := by
  obtain ⟨A, c, e, hl, hC⟩ := Kd.R_reads h.polR
  exact ⟨A, c, e, hl, fun i h0 h1 => Kd.at_string hC i h0 h1⟩
def LG.pol (L : LG) (id : Int) : ByteArray := if id < 1 ∨ L.newest < id then ByteArray.empty else rdOf ByteArray.empty L.pols (id - 1)
set_option maxHeartbeats 1000000 in
set_option maxRecDepth 100000 in
/-- Policy (22) -/
theorem Policy_calls {w : World} {B g b n : Nat} {v : Value} {L : LG} (h : Led w B g b n v L) {id : Int} (hid : 0 ≤ id ∧ id ≤ 18446744073709551615) :
    Calls Try.prog 22 #[.pointer (some ⟨g, 0, none⟩), .int .u64 id] w fun e w' => e = .returned (.tuple #[.string (L.pol id), .bool (decide (¬ (id < 1 ∨ L.newest < id)))]) ∧ w' = w := by
  obtain ⟨⟨h0, h1, h2, h3⟩, hf⟩ := h.cells
  have hn := Aside0.mk (newest_calls h)
  obtain ⟨A, c, rfl, hl, hat⟩ := h.pol_at
  have hp := h.ok.pols
  clear h
  by_cases c1 : id < 1
  · have e1 : L.pol id = ByteArray.empty := by unfold LG.pol; rw [if_pos (.inl c1)]
    have c1b : decide (id < 1) = true := decide_eq_true c1
    rw [e1]
    have e2 : decide (¬ (id < 1 ∨ L.newest < id)) = false := by simp [c1]
    rw [e2]
    clear hat e1 e2 hl hp c1
    go_enter Try.func22, Try.ntmps22
    go_wp2_with (go_at_call 26; refine hn.out.mono ?_; rintro e w' ⟨rfl, rfl⟩)
    refine bodyPost_ret (results_tmp2 rfl _ _ _) rfl ?_
    exact ⟨rfl, rfl⟩
  · by_cases c2 : L.newest < id
    · have e1 : L.pol id = ByteArray.empty := by unfold LG.pol; rw [if_pos (.inr c2)]
      have c1b : decide (id < 1) = false := decide_eq_false c1
      have c2b : decide (L.newest < id) = true := decide_eq_true c2
      rw [e1]
      have e2 : decide (¬ (id < 1 ∨ L.newest < id)) = false := by simp [c2]
      rw [e2]
      clear hat e1 e2 hl hp c1 c2
      go_enter Try.func22, Try.ntmps22
      go_wp2_with (go_at_call 26; refine hn.out.mono ?_; rintro e w' ⟨rfl, rfl⟩)
      refine bodyPost_ret (results_tmp2 rfl _ _ _) rfl ?_
      exact ⟨rfl, rfl⟩
    · have e1 : L.pol id = rdOf ByteArray.empty L.pols (id - 1) := by unfold LG.pol; rw [if_neg (by omega)]
      have c1b : decide (id < 1) = false := decide_eq_false c1
      have c2b : decide (L.newest < id) = false := decide_eq_false c2
      have e2 : decide (¬ (id < 1 ∨ L.newest < id)) = true := by simp; omega
      have hnn : L.newest = (L.pols.length : Int) := rfl
      obtain ⟨j, hj⟩ : ∃ j, j = id - 1 := ⟨_, rfl⟩
      obtain ⟨ad, rfl, hc⟩ := hat j (by omega) (by omega)
      have e4 : IntKind.u64.wrap (id - 1) = j := by simp [IntKind.wrap, IntKind.bits, IntKind.signed]; omega
      rw [e1, e2, ← hj]
      have q1 := eq_true (show 0 ≤ j by omega)
      have q2 := eq_true (show j < (L.pols.length : Int) by omega)
      clear e1 e2 hat c1 c2 hnn hj
      go_enter Try.func22, Try.ntmps22
      go_wp2_with (go_at_call 26; refine hn.out.mono ?_; rintro e w' ⟨rfl, rfl⟩)
      refine bodyPost_ret (results_tmp2 rfl _ _ _) rfl ?_
      exact ⟨rfl, rfl⟩
end Go.Proofs.Ytjfkenjmjoncbaa.Lg
