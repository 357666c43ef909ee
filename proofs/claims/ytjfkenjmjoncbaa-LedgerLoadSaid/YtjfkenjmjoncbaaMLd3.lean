-- Laid together by a program of this session (merge.py) out of its own texts and of the print's, for one law. Lean checks it.
import Derived.Test.YtjfkenjmjoncbaaMLd2
section
namespace Go.Proofs.Ytjfkenjmjoncbaa.Lg
open Go Go.Maps Go.WideShapes Go.RowKit Go.Proofs.Ytjfkenjmjoncbaa.PAll Go.Proofs.YtjfkenjmjoncbaaW.PrintWords Go.Proofs.YtjfkenjmjoncbaaW.PrintLast Go.Proofs.YtjfkenjmjoncbaaW.PrintMore
set_option linter.unusedVariables false
set_option linter.unusedSimpArgs false

def lpS (p : LP) : S42 := ⟨p.id, p.ver, p.text⟩
structure RRows (w : World) (B : Nat) (vP vQ : Value) (M : LG) : Prop where
  posts : Kd.R k42 42 w B (fun k => some k = vP.ownBlock) vP (M.posts.map lpS)
  pols : Kd.R Kd.string 9 w B (fun k => some k = vQ.ownBlock) vQ M.pols
theorem RRows.nil (w : World) (B : Nat) (nx cu : Int) : RRows w B (.slice none 0 0) (.slice none 0 0) ⟨[], [], nx, cu⟩ := ⟨Kd.R_nil _ _ _ _ _, Kd.R_nil _ _ _ _ _⟩
theorem RRows.below {w w' : World} {B : Nat} {vP vQ : Value} {M : LG} (h : RRows w B vP vQ M) (hb : Below w.heap.size w w') : RRows w' B vP vQ M := ⟨Kd.R_below h.posts hb, Kd.R_below h.pols hb⟩
theorem RRows.far {w : World} {B : Nat} {vP vQ : Value} {M : LG} (h : RRows w B vP vQ M) {g i : Nat} {t : TypeId} {cs : Array Value} (hg : w.heap[g]? = some (.cells cs t (0, 0))) (h1 : 42 ≠ t) (h2 : 9 ≠ t) (u : Value) : RRows (w.setCell ⟨g, i, none⟩ u) B vP vQ M :=
  ⟨Kd.R_far h.posts (p := ⟨g, i, none⟩) (fun k hk e => Kd.R_ne h.posts hg h1 (by rw [← hk, e])) u, Kd.R_far h.pols (p := ⟨g, i, none⟩) (fun k hk e => Kd.R_ne h.pols hg h2 (by rw [← hk, e])) u⟩
theorem RRows.post {w w' : World} {B : Nat} {vP vQ vP' : Value} {M : LG} (h : RRows w B vP vQ M) (p : LP) (hR : Kd.R k42 42 w' B (fun _ => True) vP' ((M.posts.map lpS) ++ [lpS p])) (hg : w.grownBy w' vP.ownBlock) : RRows w' B vP' vQ ⟨M.posts ++ [p], M.pols, M.next, M.cur⟩ := by
  refine ⟨?_, Kd.R_grown h.pols hg (fun k hk e => ?_)⟩
  · have := Kd.R_tight rfl hR
    rwa [show (M.posts ++ [p]).map lpS = M.posts.map lpS ++ [lpS p] by simp]
  · obtain ⟨c1, h1⟩ := Kd.R_typed h.pols k hk.symm
    obtain ⟨c2, h2⟩ := Kd.R_typed h.posts k e.symm
    rw [h1] at h2
    simp at h2
theorem RRows.pol {w w' : World} {B : Nat} {vP vQ vQ' : Value} {M : LG} (h : RRows w B vP vQ M) (s : ByteArray) (hR : Kd.R Kd.string 9 w' B (fun _ => True) vQ' (M.pols ++ [s])) (hg : w.grownBy w' vQ.ownBlock) : RRows w' B vP vQ' ⟨M.posts, M.pols ++ [s], M.next, M.cur⟩ := by
  refine ⟨Kd.R_grown h.posts hg (fun k hk e => ?_), Kd.R_tight rfl hR⟩
  obtain ⟨c1, h1⟩ := Kd.R_typed h.pols k e.symm
  obtain ⟨c2, h2⟩ := Kd.R_typed h.posts k hk.symm
  rw [h1] at h2
  simp at h2
def Under (prev : Option Int) (M : LG) : Prop := ∀ p ∈ M.posts, ∃ q, prev = some q ∧ p.id ≤ q
theorem setP_end {M : LG} {prev : Option Int} (h : Under prev M) {k : Int} (hk : prevOk prev k = true) (p : LP) (hp : p.id = k) : setP M.posts p = M.posts ++ [p] := by
  refine setP_new (fun x hx => ?_)
  obtain ⟨q, e, hq⟩ := h x hx
  subst e
  have : q < k := of_decide_eq_true hk
  omega
theorem under_step {M : LG} {prev : Option Int} (h : Under prev M) {k : Int} {bs : List Int} (hk : prevOk prev k = true) : Under (some k) (ldL M k bs) := by
  have hM : ∀ x ∈ M.posts, x.id ≤ k := fun x hx => by
    obtain ⟨q, e, hq⟩ := h x hx
    subst e
    have : q < k := of_decide_eq_true hk
    omega
  intro x hx
  refine ⟨k, rfl, ?_⟩
  unfold ldL at hx
  split at hx
  · exact hM x hx
  · rcases mem_setP.1 hx with rfl | ⟨q, _⟩
    · exact Int.le_refl _
    · exact hM x q
def RPost (w : World) (o : Option LG) (e : Ending) (w' : World) : Prop := match o with
  | some L => ∃ vP vQ, e = .returned (.tuple #[.agg #[vP, vQ, .int .u64 L.next, .int .u64 L.cur], .int .i64 0]) ∧ RRows w' w.heap.size vP vQ L ∧ Below w.heap.size w w'
  | none => e = .returned (.tuple #[.agg #[.slice none 0 0, .slice none 0 0, .int .u64 0, .int .u64 0], .int .i64 8]) ∧ Below w.heap.size w w'
theorem set4 {w : World} {g : Nat} {a b c d : Value} (h : w.heap[g]? = some (.cells #[a, b, c, d] 58 (0, 0))) (a' b' c' d' : Value) :
    ((((w.setCell ⟨g, 0, none⟩ a').setCell ⟨g, 1, none⟩ b').setCell ⟨g, 2, none⟩ c').setCell ⟨g, 3, none⟩ d').heap[g]? = some (.cells #[a', b', c', d'] 58 (0, 0)) ∧
    Mv (fun j => j = g) w ((((w.setCell ⟨g, 0, none⟩ a').setCell ⟨g, 1, none⟩ b').setCell ⟨g, 2, none⟩ c').setCell ⟨g, 3, none⟩ d') :=
  ⟨blk_set (blk_set (blk_set (blk_set h 0 a') 1 b') 2 c') 3 d', (((Mv.set (S := fun j => j = g) _ rfl).trans (.set (S := fun j => j = g) _ rfl) (S' := fun j => j = g) (fun j hj => .inl hj)).trans (.set (S := fun j => j = g) _ rfl) (S' := fun j => j = g) (fun j hj => .inl hj)).trans (.set (S := fun j => j = g) _ rfl) (S' := fun j => j = g) (fun j hj => .inl hj)⟩
theorem RRows.mv {w w' : World} {B : Nat} {vP vQ : Value} {M : LG} (h : RRows w B vP vQ M) {g : Nat} {t : TypeId} {cs : Array Value} (hg : w.heap[g]? = some (.cells cs t (0, 0))) (h1 : 42 ≠ t) (h2 : 9 ≠ t) (m : Mv (fun j => j = g) w w') : RRows w' B vP vQ M :=
  ⟨Kd.R_step h.posts (fun k hk hlt => m.block k hlt (fun e => Kd.R_ne h.posts hg h1 (by rw [← hk, e]))), Kd.R_step h.pols (fun k hk hlt => m.block k hlt (fun e => Kd.R_ne h.pols hg h2 (by rw [← hk, e])))⟩
set_option maxHeartbeats 1000000 in
set_option maxRecDepth 100000 in
theorem RNew_calls (w : World) : Calls Try.prog 32 #[] w fun e w' => e = .returned (.agg #[.slice none 0 0, .slice none 0 0, .int .u64 1, .int .u64 0]) ∧ Below w.heap.size w w' := by
  go_enter Try.func32, Try.ntmps32
  go_wp2
  refine bodyPost_ret (results_single rfl (.cell w.heap.size 58 #[.slice none 0 0, .slice none 0 0, .int .u64 1, .int .u64 0] (0, 0) _ rfl (blk_new _ _) Try.underlying58 rfl (by kernel_rfl) .nil)) rfl ?_
  refine ⟨rfl, ?_⟩
  repeat (first | exact Below.refl _ _ | apply below_alloc)
set_option maxHeartbeats 1000000 in
set_option maxRecDepth 100000 in
theorem RLoad_nil (w : World) (A0 : Option Addr) (c0 : Nat) : Calls Try.prog 20 #[.slice A0 0 c0] w (RPost w (some LG.empty)) := by
  go_enter Try.func20, Try.ntmps20
  go_wp2_with (go_at_call 32; refine (RNew_calls _).mono ?_; rintro e w1 ⟨rfl, hb⟩; have HB1 := Aside0.mk ((below_alloc (Below.refl w.heap.size w) _).trans (hb.mono (by simp))); have BK1 := Aside0.mk (blk_below (blk_new w (.cells #[.slice none 0 0, .slice none 0 0, .int .u64 0, .int .u64 0] 58)) hb); have k0 := (blk_cell BK1.out 0).trans rfl; have k1 := (blk_cell BK1.out 1).trans rfl; have k2 := (blk_cell BK1.out 2).trans rfl; have k3 := (blk_cell BK1.out 3).trans rfl; have f0 := blk_frozen BK1.out 0; have f1 := blk_frozen BK1.out 1; have f2 := blk_frozen BK1.out 2; have f3 := blk_frozen BK1.out 3; have hz1 := blk_lt BK1.out; clear hb)
  obtain ⟨hb, hm⟩ := set4 BK1.out (.slice none 0 0) (.slice none 0 0) (.int .u64 1) (.int .u64 0)
  refine bodyPost_ret (results_ct rfl _ _ w.heap.size 58 _ (0, 0) _ rfl hb Try.underlying58 rfl (by kernel_rfl)) rfl ?_
  exact ⟨_, _, rfl, RRows.nil _ _ _ _, mv_below HB1.out hm (fun j hj => by omega) HB1.out.size⟩
set_option maxHeartbeats 2000000 in
set_option maxRecDepth 100000 in
theorem RLoad_bad {w : World} {A0 : Option Addr} {c0 : Nat} {ps : List S52} (hC : Kd.C k52 w A0 ps.length ps) (hm : ps.length ≤ 3000000) (hne : ps ≠ []) {s : S52} (es : rd_T52 ps (((ps.length - 1 : Nat) : Int)) = s) {r1 r2 r3 : Int}
    (hh : ∀ (w1 : World) (A : Option Addr) (c : Nat), (Kd.int .u8).C w1 A s.f1.length s.f1 → s.f1.length ≤ c → Calls Try.prog 33 #[.agg #[.int .u64 s.f0, .slice A s.f1.length c]] w1 fun e w' => e = .returned (.tuple #[.int .u64 r1, .int .u64 r2, .int .u64 r3, .bool false]) ∧ Below w1.heap.size w1 w') :
    Calls Try.prog 20 #[.slice A0 ps.length c0] w (RPost w none) := by
  have hpos : 0 < ps.length := List.length_pos_iff.2 hne
  obtain ⟨J0, hJ0⟩ : ∃ J0 : Int, J0 = ((ps.length - 1 : Nat) : Int) := ⟨_, rfl⟩
  rw [← hJ0] at es
  have q0 := eq_true (show 0 ≤ J0 by omega)
  have q1 := eq_true (show J0 < (ps.length : Int) by omega)
  obtain ⟨ad, A1, c1, ea, x0, x1, hl1, hC1⟩ := at_T52 hC J0 (by omega) (by omega)
  rw [es] at x0 x1 hl1 hC1
  have hw0 : wrap64 ((ps.length : Int) - 1) = J0 := by unfold wrap64; omega
  have d0 : ((ps.length : Int) == 0) = false := beq_eq_false_iff_ne.2 (by omega)
  subst ea
  have HHD := Aside0.mk (fun (w1 : World) (hb : Below w.heap.size w w1) => hh w1 A1 c1 (Kd.C_below hC1 hb) hl1)
  generalize s.f0 = k at x0 HHD
  generalize s.f1 = bs at x1 HHD
  have a0 := World.block_lt_of_cell? w _ x0
  have a1 := World.block_lt_of_cell? w _ x1
  clear hC hm hC1 hl1 hJ0 hpos hne es hh
  go_enter Try.func20, Try.ntmps20
  go_wp2_with (go_at_call 33; refine (HHD.out _ (by repeat (first | exact Below.refl _ _ | apply below_alloc))).mono ?_; rintro e w1 ⟨rfl, hb⟩; have HB1 := Aside0.mk ((show Below w.heap.size w ((w.alloc (.cells #[.slice none 0 0, .slice none 0 0, .int .u64 0, .int .u64 0] 58)).alloc (.cells #[.slice none 0 0, .slice none 0 0, .int .u64 0, .int .u64 0] 58)) from by repeat (first | exact Below.refl _ _ | apply below_alloc)).trans (hb.mono (by simp; omega))); have BK2 := Aside0.mk (blk_below (blk_alloc (blk_new w (.cells #[.slice none 0 0, .slice none 0 0, .int .u64 0, .int .u64 0] 58)) (.cells #[.slice none 0 0, .slice none 0 0, .int .u64 0, .int .u64 0] 58)) hb); have BK4 := Aside0.mk (show w1.heap[w.heap.size + 1]? = some (.cells #[.slice none 0 0, .slice none 0 0, .int .u64 0, .int .u64 0] 58) from by have h_ := blk_below (blk_new (w.alloc (.cells #[.slice none 0 0, .slice none 0 0, .int .u64 0, .int .u64 0] 58)) (.cells #[.slice none 0 0, .slice none 0 0, .int .u64 0, .int .u64 0] 58)) hb; rwa [show (w.alloc (.cells #[.slice none 0 0, .slice none 0 0, .int .u64 0, .int .u64 0] 58)).heap.size = w.heap.size + 1 from by simp] at h_); have k0 := (blk_cell BK2.out 0).trans rfl; have j0 := (blk_cell BK4.out 0).trans rfl; have k1 := (blk_cell BK2.out 1).trans rfl; have j1 := (blk_cell BK4.out 1).trans rfl; have k2 := (blk_cell BK2.out 2).trans rfl; have j2 := (blk_cell BK4.out 2).trans rfl; have k3 := (blk_cell BK2.out 3).trans rfl; have j3 := (blk_cell BK4.out 3).trans rfl; have f0 := blk_frozen BK2.out 0; have f1 := blk_frozen BK2.out 1; have f2 := blk_frozen BK2.out 2; have f3 := blk_frozen BK2.out 3; have hz1 := blk_lt BK4.out; clear hb)
  obtain ⟨hb, hm⟩ := set4 BK2.out (.slice none 0 0) (.slice none 0 0) (.int .u64 0) (.int .u64 0)
  refine bodyPost_ret (results_ct rfl _ _ w.heap.size 58 _ (0, 0) _ rfl hb Try.underlying58 rfl (by kernel_rfl)) rfl ?_
  exact ⟨rfl, mv_below HB1.out hm (fun j hj => by omega) HB1.out.size⟩
set_option maxHeartbeats 1000000 in
set_option maxRecDepth 100000 in
theorem RNewest_calls (w : World) (vP : Value) (A : Option Addr) (n c : Nat) (a b : Int) (hn : n ≤ 1000) : Calls Try.prog 34 #[.agg #[vP, .slice A n c, .int .u64 a, .int .u64 b]] w fun e w' => e = .returned (.int .u64 n) ∧ Below w.heap.size w w' := by
  have hw : (IntKind.u64.wrap (n : Int)) = n := by simp [IntKind.wrap, IntKind.bits, IntKind.signed]; omega
  go_enter Try.func34, Try.ntmps34
  go_wp2_with ((with_reducible refine gate_dst (N := 1) rfl ?_); refine box_event ?hg (N := 1) ?hd (cs := #[vP, .slice A n c, .int .u64 a, .int .u64 b]) (t := 58) ?hr ?_; (case hd => rfl); (case hg => rfl); (case hr => first | (go_simp; done) | (go_simp; rfl)); intro gb hg w5 hbox hb; have HB5 := Aside0.mk hb; have k1 : w5.cell? ⟨gb, 1, none⟩ = some (.slice A n c) := (blk_cell hbox 1).trans rfl; clear hg hbox hb)
  go_ret
  exact ⟨rfl, HB5.out⟩
structure RS (w wx : World) (gO : Nat) (vP vQ : Value) (nx cu : Int) (M : LG) (A : Option Addr) (pb : List Int) : Prop where
  rr : RRows wx w.heap.size vP vQ M
  bo : wx.heap[gO]? = some (.cells #[vP, vQ, .int .u64 nx, .int .u64 cu] 58 (0, 0))
  c2 : wx.heap[w.heap.size]? = some (.cells #[.slice none 0 0, .slice none 0 0, .int .u64 0, .int .u64 0] 58 (0, 0))
  c4 : wx.heap[w.heap.size + 1]? = some (.cells #[.slice none 0 0, .slice none 0 0, .int .u64 0, .int .u64 0] 58 (0, 0))
  hb : Below w.heap.size w wx
  cj : (Kd.int .u8).C wx A pb.length pb
theorem RS.below {w wx w2 : World} {gO : Nat} {vP vQ : Value} {nx cu : Int} {M : LG} {A : Option Addr} {pb : List Int} (h : RS w wx gO vP vQ nx cu M A pb) (b : Below wx.heap.size wx w2) : RS w w2 gO vP vQ nx cu M A pb :=
  ⟨h.rr.below b, blk_below h.bo b, blk_below h.c2 b, blk_below h.c4 b, h.hb.trans (b.mono h.hb.size), Kd.C_below h.cj b⟩
theorem info42 : (Try.prog.info? 42).map (fun i => (i.zero, i.size, i.bytes)) = some (some (.agg #[.int .u64 0, .int .u64 0, .string ⟨#[]⟩]), 3, 32) := by kernel_rfl
theorem pols_append {w0 W : World} {ops : Array Oper} {rest : List Oper} {o : Oper} {a : Act} {Q : Exit → Act → World → Prop} (B : Nat) (hgd : o.guard = none) (s x : Operand)
    (ho : o.op = .call { callee := .builtin .append, args := #[s, x], argTypes := #[56, 56] }) (v : Value) (xs : List ByteArray) (text : ByteArray) (hs : a.eval s = v) (hx : a.eval x = .slice (some ⟨W.heap.size, 0, none⟩) 1 1)
    (HO : Kd.R Kd.string 9 W B (fun k => some k = v.ownBlock) v xs) (HB : Below B w0 W) (hbase : B ≤ W.heap.size) (hl : xs.length ≤ 1000000)
    (h : ∀ v1 w1, Kd.R Kd.string 9 w1 B (fun _ => True) v1 (xs ++ [text]) → Below B w0 w1 → W.grownBy w1 v.ownBlock → wpList Try.prog ops Q rest (a.put o.dst v1) w1) :
    wpList Try.prog ops Q (o :: rest) a (W.alloc (.cells #[.string text] 9)) :=
  Kd.R_append Kd.string (P := Try.prog) B hgd s x 56 9 (.string ⟨#[]⟩) 16 ho Try.underlying56 info9 rfl (Nat.succ_pos 0) (by decide) v xs text [.string text] (fun _ => True) (fun _ => False) hs hx rfl (fun _ q => q.elim) (fun _ _ => trivial) (Kd.R_mono HO (fun _ _ => trivial)) HB hbase (by omega) (fun v1 w1 h1 h2 h3 _ => h v1 w1 h1 h2 h3)
theorem posts_append {w0 W : World} {ops : Array Oper} {rest : List Oper} {o : Oper} {a : Act} {Q : Exit → Act → World → Prop} (B : Nat) (hgd : o.guard = none) (s x : Operand)
    (ho : o.op = .call { callee := .builtin .append, args := #[s, x], argTypes := #[55, 55] }) (v : Value) (xs : List S42) (p : S42) (hs : a.eval s = v) (hx : a.eval x = .slice (some ⟨W.heap.size, 0, none⟩) 1 1)
    (HO : Kd.R k42 42 W B (fun k => some k = v.ownBlock) v xs) (HB : Below B w0 W) (hbase : B ≤ W.heap.size) (hl : xs.length ≤ 3000000)
    (h : ∀ v1 w1, Kd.R k42 42 w1 B (fun _ => True) v1 (xs ++ [p]) → Below B w0 w1 → W.grownBy w1 v.ownBlock → wpList Try.prog ops Q rest (a.put o.dst v1) w1) :
    wpList Try.prog ops Q (o :: rest) a (W.alloc (.cells #[.int .u64 p.f0, .int .u64 p.f1, .string p.f2] 42)) :=
  Kd.R_append k42 (P := Try.prog) B hgd s x 55 42 (.agg #[.int .u64 0, .int .u64 0, .string ⟨#[]⟩]) 32 ho Try.underlying55 info42 rfl (Nat.succ_pos 2) (by decide) v xs p [.int .u64 p.f0, .int .u64 p.f1, .string p.f2] (fun _ => True) (fun _ => False) hs hx (k42_mkM W B _ p) (fun _ q => q.elim) (fun _ _ => trivial) (Kd.R_mono HO (fun _ _ => trivial)) HB hbase (by omega) (fun v1 w1 h1 h2 h3 _ => h v1 w1 h1 h2 h3)
theorem RS.pol {w w6 w7 : World} {gO : Nat} {vP vQ v7 : Value} {nx cu : Int} {M : LG} {A : Option Addr} {pb : List Int} {text : ByteArray} (h : RS w w6 gO vP vQ nx cu M A pb) (hg : w.heap.size + 1 < gO) (hR : Kd.R Kd.string 9 w7 w.heap.size (fun _ => True) v7 (M.pols ++ [text])) (hB : Below w.heap.size w w7) (hgr : w6.grownBy w7 vQ.ownBlock) :
    RRows (w7.setCell ⟨gO, 1, none⟩ v7) w.heap.size vP v7 ⟨M.posts, M.pols ++ [text], M.next, M.cur⟩ ∧ (w7.setCell ⟨gO, 1, none⟩ v7).heap[gO]? = some (.cells #[vP, v7, .int .u64 nx, .int .u64 cu] 58 (0, 0)) ∧ (w7.setCell ⟨gO, 1, none⟩ v7).heap[w.heap.size]? = some (.cells #[.slice none 0 0, .slice none 0 0, .int .u64 0, .int .u64 0] 58 (0, 0)) ∧ (w7.setCell ⟨gO, 1, none⟩ v7).heap[w.heap.size + 1]? = some (.cells #[.slice none 0 0, .slice none 0 0, .int .u64 0, .int .u64 0] 58 (0, 0)) ∧ Below w.heap.size w (w7.setCell ⟨gO, 1, none⟩ v7) := by
  have bo7 : w7.heap[gO]? = some (.cells #[vP, vQ, .int .u64 nx, .int .u64 cu] 58 (0, 0)) := (hgr.block gO (blk_lt h.bo) (Kd.R_ne h.rr.pols h.bo (by decide))).trans h.bo
  have hm : Mv (fun j => j = gO) w7 (w7.setCell ⟨gO, 1, none⟩ v7) := .set _ rfl
  have k2 := (hgr.block _ (blk_lt h.c2) (Kd.R_ne h.rr.pols h.c2 (by decide))).trans h.c2
  have k4 := (hgr.block _ (blk_lt h.c4) (Kd.R_ne h.rr.pols h.c4 (by decide))).trans h.c4
  exact ⟨(h.rr.pol text hR hgr).far bo7 (by decide) (by decide) v7, blk_set bo7 1 v7, (hm.block _ (blk_lt k2) (by omega)).trans k2, (hm.block _ (blk_lt k4) (by omega)).trans k4, mv_below hB hm (fun j hj => by omega) hB.size⟩
theorem RS.post {w w6 w7 : World} {gO : Nat} {vP vQ v7 : Value} {nx cu : Int} {M : LG} {A : Option Addr} {pb : List Int} {p : LP} (h : RS w w6 gO vP vQ nx cu M A pb) (hg : w.heap.size + 1 < gO) (hR : Kd.R k42 42 w7 w.heap.size (fun _ => True) v7 (M.posts.map lpS ++ [lpS p])) (hB : Below w.heap.size w w7) (hgr : w6.grownBy w7 vP.ownBlock) :
    RRows (w7.setCell ⟨gO, 0, none⟩ v7) w.heap.size v7 vQ ⟨M.posts ++ [p], M.pols, M.next, M.cur⟩ ∧ (w7.setCell ⟨gO, 0, none⟩ v7).heap[gO]? = some (.cells #[v7, vQ, .int .u64 nx, .int .u64 cu] 58 (0, 0)) ∧ (w7.setCell ⟨gO, 0, none⟩ v7).heap[w.heap.size]? = some (.cells #[.slice none 0 0, .slice none 0 0, .int .u64 0, .int .u64 0] 58 (0, 0)) ∧ (w7.setCell ⟨gO, 0, none⟩ v7).heap[w.heap.size + 1]? = some (.cells #[.slice none 0 0, .slice none 0 0, .int .u64 0, .int .u64 0] 58 (0, 0)) ∧ Below w.heap.size w (w7.setCell ⟨gO, 0, none⟩ v7) := by
  have bo7 : w7.heap[gO]? = some (.cells #[vP, vQ, .int .u64 nx, .int .u64 cu] 58 (0, 0)) := (hgr.block gO (blk_lt h.bo) (Kd.R_ne h.rr.posts h.bo (by decide))).trans h.bo
  have hm : Mv (fun j => j = gO) w7 (w7.setCell ⟨gO, 0, none⟩ v7) := .set _ rfl
  have k2 := (hgr.block _ (blk_lt h.c2) (Kd.R_ne h.rr.posts h.c2 (by decide))).trans h.c2
  have k4 := (hgr.block _ (blk_lt h.c4) (Kd.R_ne h.rr.posts h.c4 (by decide))).trans h.c4
  exact ⟨(h.rr.post p hR hgr).far bo7 (by decide) (by decide) v7, blk_set bo7 0 v7, (hm.block _ (blk_lt k2) (by omega)).trans k2, (hm.block _ (blk_lt k4) (by omega)).trans k4, mv_below hB hm (fun j hj => by omega) hB.size⟩
set_option maxHeartbeats 8000000 in
set_option maxRecDepth 100000 in
theorem RLoad_nums {w : World} {A0 : Option Addr} {c0 : Nat} {ps : List S52} (hC : Kd.C k52 w A0 ps.length ps) (hm : ps.length ≤ 3000000) (hk : ∀ x ∈ ps, 0 ≤ x.f0 ∧ x.f0 ≤ 18446744073709551615) (hb : ∀ x ∈ ps, Bytes x.f1) (hne : ps ≠ []) {s : S52} (es : rd_T52 ps (((ps.length - 1 : Nat) : Int)) = s) {nx nw cu : Int}
    (hh : ∀ (w1 : World) (A : Option Addr) (c : Nat), (Kd.int .u8).C w1 A s.f1.length s.f1 → s.f1.length ≤ c → Calls Try.prog 33 #[.agg #[.int .u64 s.f0, .slice A s.f1.length c]] w1 fun e w' => e = .returned (.tuple #[.int .u64 nx, .int .u64 nw, .int .u64 cu, .bool true]) ∧ Below w1.heap.size w1 w')
    (hnx : 1 ≤ nx ∧ nx < 9223372036854775808) (hnw : 0 ≤ nw ∧ nw ≤ 100) (hcu : 0 ≤ cu ∧ cu < nx) {X : Option LG} (hl : loadLoop nw ps.dropLast none ⟨[], [], nx, cu⟩ = X) :
    Calls Try.prog 20 #[.slice A0 ps.length c0] w (RPost w (lfin nw X)) := by
  have hpos : 0 < ps.length := List.length_pos_iff.2 hne
  obtain ⟨J0, hJ0⟩ : ∃ J0 : Int, J0 = ((ps.length - 1 : Nat) : Int) := ⟨_, rfl⟩
  rw [← hJ0] at es
  have q0 := eq_true (show 0 ≤ J0 by omega)
  have q1 := eq_true (show J0 < (ps.length : Int) by omega)
  obtain ⟨ad, A1, c1, ea, x0, x1, hl1, hC1⟩ := at_T52 hC J0 (by omega) (by omega)
  rw [es] at x0 x1 hl1 hC1
  have hw0 : wrap64 ((ps.length : Int) - 1) = J0 := by unfold wrap64; omega
  have d0 : ((ps.length : Int) == 0) = false := beq_eq_false_iff_ne.2 (by omega)
  subst ea
  have HHD := Aside0.mk (fun (w1 : World) (hb : Below w.heap.size w w1) => hh w1 A1 c1 (Kd.C_below hC1 hb) hl1)
  generalize s.f0 = k at x0 HHD
  generalize s.f1 = bs at x1 HHD
  have a0 := World.block_lt_of_cell? w _ x0
  have a1 := World.block_lt_of_cell? w _ x1
  have HC := Aside0.mk hC
  have HM := Aside0.mk hm
  have HK := Aside0.mk hk
  have HBY := Aside0.mk hb
  have HL := Aside0.mk hl
  have HJ0 := Aside0.mk hJ0
  have HNX := Aside0.mk hnx
  have HNW := Aside0.mk hnw
  have HCU := Aside0.mk hcu
  clear hC hm hk hb hC1 hl1 hJ0 hpos hne es hh hl hnx hnw hcu
  go_enter Try.func20, Try.ntmps20
  go_wp2_with (go_at_call 33; refine (HHD.out _ (by repeat (first | exact Below.refl _ _ | apply below_alloc))).mono ?_; rintro e w1 ⟨rfl, hb⟩; have HB1 := Aside0.mk ((show Below w.heap.size w ((w.alloc (.cells #[.slice none 0 0, .slice none 0 0, .int .u64 0, .int .u64 0] 58)).alloc (.cells #[.slice none 0 0, .slice none 0 0, .int .u64 0, .int .u64 0] 58)) from by repeat (first | exact Below.refl _ _ | apply below_alloc)).trans (hb.mono (by simp; omega))); have BK2 := Aside0.mk (blk_below (blk_alloc (blk_new w (.cells #[.slice none 0 0, .slice none 0 0, .int .u64 0, .int .u64 0] 58)) (.cells #[.slice none 0 0, .slice none 0 0, .int .u64 0, .int .u64 0] 58)) hb); have BK4 := Aside0.mk (show w1.heap[w.heap.size + 1]? = some (.cells #[.slice none 0 0, .slice none 0 0, .int .u64 0, .int .u64 0] 58) from by have h_ := blk_below (blk_new (w.alloc (.cells #[.slice none 0 0, .slice none 0 0, .int .u64 0, .int .u64 0] 58)) (.cells #[.slice none 0 0, .slice none 0 0, .int .u64 0, .int .u64 0] 58)) hb; rwa [show (w.alloc (.cells #[.slice none 0 0, .slice none 0 0, .int .u64 0, .int .u64 0] 58)).heap.size = w.heap.size + 1 from by simp] at h_); clear hb x0 x1 a0 a1)
  clear HHD
  have HB2 := Aside0.mk (below_alloc HB1.out (.cells #[.slice none 0 0, .slice none 0 0, .int .u64 nx, .int .u64 cu] 58))
  have BO := Aside0.mk (blk_new w1 (.cells #[.slice none 0 0, .slice none 0 0, .int .u64 nx, .int .u64 cu] 58))
  have C2 := Aside0.mk (blk_alloc BK2.out (.cells #[.slice none 0 0, .slice none 0 0, .int .u64 nx, .int .u64 cu] 58))
  have C4 := Aside0.mk (blk_alloc BK4.out (.cells #[.slice none 0 0, .slice none 0 0, .int .u64 nx, .int .u64 cu] 58))
  have HGO := Aside0.mk (show w.heap.size + 1 < w1.heap.size from blk_lt BK4.out)
  clear BK2 BK4 HB1
  generalize w1.alloc (.cells #[.slice none 0 0, .slice none 0 0, .int .u64 nx, .int .u64 cu] 58) = w2 at HB2 BO C2 C4 ⊢
  generalize w1.heap.size = gO at BO HGO ⊢
  go_loopg [11] J0.toNat (fun kq v11 wr => ∃ (J : Int) (M : LG) (vP vQ : Value), v11 = .int .i64 J ∧ Aside0 (0 ≤ J ∧ J + kq = J0) ∧ Aside0 (loadLoop nw (ps.dropLast.drop J.toNat) (prevK ps J) M = X) ∧ Aside0 (M.newest ≤ nw ∧ Under (prevK ps J) M ∧ M.next = nx ∧ M.cur = cu ∧ M.posts.length ≤ J.toNat) ∧
    Aside0 (RRows wr w.heap.size vP vQ M) ∧ Aside0 (wr.heap[gO]? = some (.cells #[vP, vQ, .int .u64 nx, .int .u64 cu] 58)) ∧ Aside0 (wr.heap[w.heap.size]? = some (.cells #[.slice none 0 0, .slice none 0 0, .int .u64 0, .int .u64 0] 58)) ∧ Aside0 (wr.heap[w.heap.size + 1]? = some (.cells #[.slice none 0 0, .slice none 0 0, .int .u64 0, .int .u64 0] 58)) ∧ Aside0 (Below w.heap.size w wr))
  case atStart => exact ⟨0, _, _, _, rfl, ⟨by have := of_eq_true q0; omega⟩, HL, ⟨by have := HNW.out; show (([] : List ByteArray).length : Int) ≤ nw; simp; omega, fun p hp => by simp at hp, rfl, rfl, by simp⟩, ⟨RRows.nil _ _ _ _⟩, BO, C2, C4, HB2⟩
  case round =>
    clear HL HB2 BO C2 C4
    obtain ⟨J, M, vP, vQ, rfl, HJ, HLP, HMI, HRR, BO, C2, C4, HB⟩ := hrel
    by_cases c1 : J < J0
    · have c1b : decide (J < J0) = true := decide_eq_true c1
      have q2 := eq_true HJ.out.1
      have hjl : J < (ps.length : Int) := by have := of_eq_true q1; omega
      have q3 := eq_true hjl
      obtain ⟨ad', A', c', ea, y0, y1, hl', hC'⟩ := at_T52 HC.out J HJ.out.1 hjl
      cases ea
      obtain ⟨st0, st2, st3⟩ := loop_any HJ.out.1 (by rw [← HJ0.out]; exact c1) HLP.out
      have hpm : rd_T52 ps J ∈ ps := by
        have hj : J.toNat < ps.length := by have := HJ.out; omega
        have := rd_get hj
        rw [Int.toNat_of_nonneg HJ.out.1] at this
        rw [this]; exact List.getElem_mem hj
      have HKJ := Aside0.mk (HK.out _ hpm)
      have HBJ := Aside0.mk (HBY.out _ hpm)
      have HCL := Aside0.mk hl'
      have HCJ := Aside0.mk (Kd.C_below hC' HB.out)
      replace y0 := (HB.out.cell (World.block_lt_of_cell? w _ y0)).trans y0
      replace y1 := (HB.out.cell (World.block_lt_of_cell? w _ y1)).trans y1
      obtain ⟨pk, hpk⟩ : ∃ pk, (rd_T52 ps J).f0 = pk := ⟨_, rfl⟩
      obtain ⟨pb, hpb⟩ : ∃ pb, (rd_T52 ps J).f1 = pb := ⟨_, rfl⟩
      rw [hpk] at y0 st0 st2 st3 HKJ
      rw [hpb] at y1 st2 st3 HCJ HCL HBJ
      have HT2 := Aside0.mk st2
      have HT3 := Aside0.mk st3
      have hjw : wrap64 (J + 1) = J + 1 := by have := HJ.out; have := HM.out; have := HJ0.out; unfold wrap64; omega
      have HPK : Aside0 (prevK ps (J + 1) = some pk) := ⟨by unfold prevK; rw [if_neg (by have := HJ.out; omega), show J + 1 - 1 = J by omega, hpk]⟩
      clear hpm hpk hpb hjl hl' hC' st2 st3 c1 HLP
      go_wp2
      go_quiet (fail)
      have hbq := pw_below_drewN (Below.refl wr.heap.size wr) nq
      have n_ := Aside0.mk (RS.below (⟨HRR.out, BO.out, C2.out, C4.out, HB.out, HCJ.out⟩ : RS w wr gO vP vQ nx cu M A' pb) hbq)
      clear hbq HRR BO C2 C4 HB HCJ y0 y1
      generalize wr.drewN nq = wx at n_ ⊢
      have HS := n_
      clear n_
      have g0 : wx.cell? ⟨w.heap.size, 0, none⟩ = some (.slice none 0 0) := (blk_cell HS.out.c2 0).trans rfl
      have g1 : wx.cell? ⟨w.heap.size, 1, none⟩ = some (.slice none 0 0) := (blk_cell HS.out.c2 1).trans rfl
      have g2 : wx.cell? ⟨w.heap.size, 2, none⟩ = some (.int .u64 0) := (blk_cell HS.out.c2 2).trans rfl
      have g3 : wx.cell? ⟨w.heap.size, 3, none⟩ = some (.int .u64 0) := (blk_cell HS.out.c2 3).trans rfl
      have f0 : wx.frozen? ⟨w.heap.size, 0, none⟩ = false := blk_frozen HS.out.c2 0
      have f1 : wx.frozen? ⟨w.heap.size, 1, none⟩ = false := blk_frozen HS.out.c2 1
      have f2 : wx.frozen? ⟨w.heap.size, 2, none⟩ = false := blk_frozen HS.out.c2 2
      have f3 : wx.frozen? ⟨w.heap.size, 3, none⟩ = false := blk_frozen HS.out.c2 3
      have z0 : wx.cell? ⟨w.heap.size + 1, 0, none⟩ = some (.slice none 0 0) := (blk_cell HS.out.c4 0).trans rfl
      have z1 : wx.cell? ⟨w.heap.size + 1, 1, none⟩ = some (.slice none 0 0) := (blk_cell HS.out.c4 1).trans rfl
      have z2 : wx.cell? ⟨w.heap.size + 1, 2, none⟩ = some (.int .u64 0) := (blk_cell HS.out.c4 2).trans rfl
      have z3 : wx.cell? ⟨w.heap.size + 1, 3, none⟩ = some (.int .u64 0) := (blk_cell HS.out.c4 3).trans rfl
      have o0 : wx.cell? ⟨gO, 0, none⟩ = some vP := (blk_cell HS.out.bo 0).trans rfl
      have o1 : wx.cell? ⟨gO, 1, none⟩ = some vQ := (blk_cell HS.out.bo 1).trans rfl
      have o2 : wx.cell? ⟨gO, 2, none⟩ = some (.int .u64 nx) := (blk_cell HS.out.bo 2).trans rfl
      have o3 : wx.cell? ⟨gO, 3, none⟩ = some (.int .u64 cu) := (blk_cell HS.out.bo 3).trans rfl
      have p0 : wx.frozen? ⟨gO, 0, none⟩ = false := blk_frozen HS.out.bo 0
      have p1 : wx.frozen? ⟨gO, 1, none⟩ = false := blk_frozen HS.out.bo 1
      by_cases cz : J = 0
      · have e1 : decide (0 < J) = false := decide_eq_false (by omega)
        have hpv0 : prevOk (prevK ps J) pk = true := by unfold prevK; rw [if_pos cz]; rfl
        clear st0 cz
        by_cases hi : 9223372036854775808 ≤ pk
        · have e3 : decide (9223372036854775808 ≤ pk) = true := decide_eq_true hi
          obtain ⟨AQ, cQ, eQ⟩ := Kd.R_slice HS.out.rr.pols
          subst eQ
          have HPL := Aside0.mk (show (M.pols.length : Int) ≤ 100 from by have := HNW.out; have h9 : (M.pols.length : Int) ≤ nw := HMI.out.1; omega)
          obtain ⟨K1, hK1⟩ : ∃ K1, K1 = 9223372036854775808 + (M.pols.length : Int) := ⟨_, rfl⟩
          obtain ⟨K2, hK2⟩ : ∃ K2, K2 = K1 + 1 := ⟨_, rfl⟩
          have hw2 : IntKind.u64.wrap (9223372036854775808 + (M.pols.length : Int)) = K1 := by have := HPL.out; rw [hK1]; simp [IntKind.wrap, IntKind.bits, IntKind.signed]; omega
          have hw3 : IntKind.u64.wrap (K1 + 1) = K2 := by have := HPL.out; rw [hK2, hK1]; simp [IntKind.wrap, IntKind.bits, IntKind.signed]; omega
          have hldo : ldOk M pk pb nw = (decide (pk = K2) && decide (M.newest ≠ nw) && decide (pb.length ≤ 2000)) := by rw [hK2, hK1]; exact if_pos hi
          have hLD : ldL M pk pb = ⟨M.posts, M.pols ++ [strOfNums pb], M.next, M.cur⟩ := if_pos hi
          clear hK1 hK2 hi
          by_cases ka : pk = K2
          · have e4 : (pk != K2) = false := bne_eq_false_iff_eq.2 ka
            by_cases kb : (M.pols.length : Int) < nw
            · have e5 : decide (nw ≤ (M.pols.length : Int)) = false := decide_eq_false (by omega)
              by_cases kc : pb.length ≤ 2000
              · have e6 : decide (2000 < (pb.length : Int)) = false := decide_eq_false (by omega)
                have hlt : ldOk M pk pb nw = true := by rw [hldo, show decide (pk = K2) = true from decide_eq_true ka, show decide (pb.length ≤ 2000) = true from decide_eq_true kc, show decide (M.newest ≠ nw) = true from decide_eq_true (fun h => by have h9 : (M.pols.length : Int) = nw := h; omega)]; rfl
                have HX3 := Aside0.mk (HT3.out hpv0 hlt)
                have HNN := Aside0.mk (ldL_newest HMI.out.1 hlt)
                have HUN := Aside0.mk (under_step HMI.out.2.1 (bs := pb) hpv0)
                obtain ⟨text, htext⟩ : ∃ text, strOfNums pb = text := ⟨_, rfl⟩
                rw [htext] at hLD
                have HTX := Aside0.mk htext
                have HLD := Aside0.mk hLD
                clear ka kb kc hldo hpv0 hlt hLD htext
                go_wp2_with (first
                  | (go_at_call 34; refine (RNewest_calls _ vP AQ M.pols.length cQ nx cu (by have := HPL.out; omega)).mono ?_; rintro e w6 ⟨rfl, hb⟩; have n_ := Aside0.mk (HS.out.below hb); clear HS hb g0 g1 g2 g3 f0 f1 f2 f3 z0 z1 z2 z3 o0 o1 o2 o3 p0 p1; have HS := n_; clear n_; have g0 : w6.cell? ⟨w.heap.size, 0, none⟩ = some (.slice none 0 0) := (blk_cell HS.out.c2 0).trans rfl; have g1 : w6.cell? ⟨w.heap.size, 1, none⟩ = some (.slice none 0 0) := (blk_cell HS.out.c2 1).trans rfl; have g2 : w6.cell? ⟨w.heap.size, 2, none⟩ = some (.int .u64 0) := (blk_cell HS.out.c2 2).trans rfl; have g3 : w6.cell? ⟨w.heap.size, 3, none⟩ = some (.int .u64 0) := (blk_cell HS.out.c2 3).trans rfl; have f0 : w6.frozen? ⟨w.heap.size, 0, none⟩ = false := blk_frozen HS.out.c2 0; have f1 : w6.frozen? ⟨w.heap.size, 1, none⟩ = false := blk_frozen HS.out.c2 1; have f2 : w6.frozen? ⟨w.heap.size, 2, none⟩ = false := blk_frozen HS.out.c2 2; have f3 : w6.frozen? ⟨w.heap.size, 3, none⟩ = false := blk_frozen HS.out.c2 3; have z0 : w6.cell? ⟨w.heap.size + 1, 0, none⟩ = some (.slice none 0 0) := (blk_cell HS.out.c4 0).trans rfl; have z1 : w6.cell? ⟨w.heap.size + 1, 1, none⟩ = some (.slice none 0 0) := (blk_cell HS.out.c4 1).trans rfl; have z2 : w6.cell? ⟨w.heap.size + 1, 2, none⟩ = some (.int .u64 0) := (blk_cell HS.out.c4 2).trans rfl; have z3 : w6.cell? ⟨w.heap.size + 1, 3, none⟩ = some (.int .u64 0) := (blk_cell HS.out.c4 3).trans rfl; have o0 : w6.cell? ⟨gO, 0, none⟩ = some vP := (blk_cell HS.out.bo 0).trans rfl; have o1 : w6.cell? ⟨gO, 1, none⟩ = some (.slice AQ M.pols.length cQ) := (blk_cell HS.out.bo 1).trans rfl; have o2 : w6.cell? ⟨gO, 2, none⟩ = some (.int .u64 nx) := (blk_cell HS.out.bo 2).trans rfl; have o3 : w6.cell? ⟨gO, 3, none⟩ = some (.int .u64 cu) := (blk_cell HS.out.bo 3).trans rfl; have p0 : w6.frozen? ⟨gO, 0, none⟩ = false := blk_frozen HS.out.bo 0; have p1 : w6.frozen? ⟨gO, 1, none⟩ = false := blk_frozen HS.out.bo 1; have hcv := Kd.C_string (P := Try.prog) (A := A') (c := c') Try.underlying50 Try.underlying5 Try.underlying9 HS.out.cj; rw [HTX.out] at hcv)
                  | (at_builtin; (have hq1 : Kd.R Kd.string 9 w6 w.heap.size (fun k => some k = (Value.slice AQ M.pols.length cQ).ownBlock) (.slice AQ M.pols.length cQ) M.pols := HS.out.rr.pols); (have hq2 : Below w.heap.size w w6 := HS.out.hb); (have hq3 : w.heap.size ≤ w6.heap.size := HS.out.hb.size); have hq4 : M.pols.length ≤ 1000000 := (by have := HPL.out; omega); (refine pols_append (w0 := w) (W := w6) (text := text) w.heap.size rfl (.tmp 88) (.tmp 91) rfl (.slice AQ M.pols.length cQ) M.pols rfl rfl hq1 hq2 hq3 hq4 ?_); clear hq1 hq2 hq3 hq4; intro v7 w7 hR7 hB7 hg7; obtain ⟨A7, c7, e7⟩ := Kd.R_slice hR7; subst e7; have HR7 := Aside0.mk hR7; have HB7 := Aside0.mk hB7; have HG7 := Aside0.mk hg7; have BO7 : Aside0 (w7.heap[gO]? = some (.cells #[vP, .slice AQ M.pols.length cQ, .int .u64 nx, .int .u64 cu] 58)) := ⟨(hg7.block gO (blk_lt HS.out.bo) (Kd.R_ne HS.out.rr.pols HS.out.bo (by decide))).trans HS.out.bo⟩; clear hR7 hB7 hg7 g0 g1 g2 g3 f0 f1 f2 f3 z0 z1 z2 z3 o0 o1 o2 o3 p0 p1; have o1 : w7.cell? ⟨gO, 1, none⟩ = some (.slice AQ M.pols.length cQ) := (blk_cell BO7.out 1).trans rfl; have p1 := blk_frozen BO7.out 1))
                go_roundg (gk - 1)
                case measure => have := HJ.out; have := of_decide_eq_true c1b; omega
                case rel =>
                  have hJ := HJ.out
                  have hJ1 := of_decide_eq_true c1b
                  obtain ⟨m1, m2, m3, m4, m5⟩ := HMI.out
                  have hX3 := HX3.out
                  have hN := HNN.out
                  have hU := HUN.out
                  rw [HLD.out] at hX3 hN hU
                  obtain ⟨n1, n2, n3, n4, n5⟩ := HS.out.pol HGO.out HR7.out HB7.out HG7.out
                  rw [show (M.pols ++ [text]).length = M.pols.length + 1 from List.length_append ..] at n1 n2 n3 n4 n5
                  exact ⟨J + 1, ⟨M.posts, M.pols ++ [text], M.next, M.cur⟩, vP, _, by first | rfl | rw [hjw], ⟨by omega⟩, ⟨hX3⟩, ⟨hN, by rw [HPK.out]; exact hU, m3, m4, Nat.le_trans m5 (by omega)⟩, ⟨n1⟩, ⟨n2⟩, ⟨n3⟩, ⟨n4⟩, ⟨n5⟩⟩
              · have e6 : decide (2000 < (pb.length : Int)) = true := decide_eq_true (by omega)
                have HX0 := Aside0.mk (HT2.out hpv0 (by rw [hldo, show decide (pb.length ≤ 2000) = false from decide_eq_false kc, Bool.and_false]))
                clear ka kb kc hldo hpv0
                go_wp2_with (go_at_call 34; refine (RNewest_calls _ vP AQ M.pols.length cQ nx cu (by have := HPL.out; omega)).mono ?_; rintro e w6 ⟨rfl, hb⟩; have n_ := Aside0.mk (HS.out.below hb); clear HS hb g0 g1 g2 g3 f0 f1 f2 f3 z0 z1 z2 z3 o0 o1 o2 o3 p0 p1; have HS := n_; clear n_; have g0 : w6.cell? ⟨w.heap.size, 0, none⟩ = some (.slice none 0 0) := (blk_cell HS.out.c2 0).trans rfl; have g1 : w6.cell? ⟨w.heap.size, 1, none⟩ = some (.slice none 0 0) := (blk_cell HS.out.c2 1).trans rfl; have g2 : w6.cell? ⟨w.heap.size, 2, none⟩ = some (.int .u64 0) := (blk_cell HS.out.c2 2).trans rfl; have g3 : w6.cell? ⟨w.heap.size, 3, none⟩ = some (.int .u64 0) := (blk_cell HS.out.c2 3).trans rfl; have f0 : w6.frozen? ⟨w.heap.size, 0, none⟩ = false := blk_frozen HS.out.c2 0; have f1 : w6.frozen? ⟨w.heap.size, 1, none⟩ = false := blk_frozen HS.out.c2 1; have f2 : w6.frozen? ⟨w.heap.size, 2, none⟩ = false := blk_frozen HS.out.c2 2; have f3 : w6.frozen? ⟨w.heap.size, 3, none⟩ = false := blk_frozen HS.out.c2 3; have z0 : w6.cell? ⟨w.heap.size + 1, 0, none⟩ = some (.slice none 0 0) := (blk_cell HS.out.c4 0).trans rfl; have z1 : w6.cell? ⟨w.heap.size + 1, 1, none⟩ = some (.slice none 0 0) := (blk_cell HS.out.c4 1).trans rfl; have z2 : w6.cell? ⟨w.heap.size + 1, 2, none⟩ = some (.int .u64 0) := (blk_cell HS.out.c4 2).trans rfl; have z3 : w6.cell? ⟨w.heap.size + 1, 3, none⟩ = some (.int .u64 0) := (blk_cell HS.out.c4 3).trans rfl; have o0 : w6.cell? ⟨gO, 0, none⟩ = some vP := (blk_cell HS.out.bo 0).trans rfl; have o1 : w6.cell? ⟨gO, 1, none⟩ = some (.slice AQ M.pols.length cQ) := (blk_cell HS.out.bo 1).trans rfl; have o2 : w6.cell? ⟨gO, 2, none⟩ = some (.int .u64 nx) := (blk_cell HS.out.bo 2).trans rfl; have o3 : w6.cell? ⟨gO, 3, none⟩ = some (.int .u64 cu) := (blk_cell HS.out.bo 3).trans rfl; have p0 : w6.frozen? ⟨gO, 0, none⟩ = false := blk_frozen HS.out.bo 0; have p1 : w6.frozen? ⟨gO, 1, none⟩ = false := blk_frozen HS.out.bo 1)
                obtain ⟨hb, hm⟩ := set4 HS.out.c2 (.slice none 0 0) (.slice none 0 0) (.int .u64 0) (.int .u64 0)
                refine bodyPost_ret (results_ct rfl _ _ w.heap.size 58 _ (0, 0) _ rfl hb Try.underlying58 rfl (by kernel_rfl)) rfl ?_
                rw [HX0.out]
                exact ⟨rfl, mv_below HS.out.hb hm (fun j hj => by omega) HS.out.hb.size⟩
            · have e5 : decide (nw ≤ (M.pols.length : Int)) = true := decide_eq_true (by omega)
              have hnn : M.newest = nw := by have h9 : (M.pols.length : Int) ≤ nw := HMI.out.1; show (M.pols.length : Int) = nw; omega
              have HX0 := Aside0.mk (HT2.out hpv0 (by rw [hldo, show decide (M.newest ≠ nw) = false from decide_eq_false (fun h => h hnn), Bool.and_false, Bool.false_and]))
              clear ka kb hldo hpv0 hnn
              go_wp2_with (go_at_call 34; refine (RNewest_calls _ vP AQ M.pols.length cQ nx cu (by have := HPL.out; omega)).mono ?_; rintro e w6 ⟨rfl, hb⟩; have n_ := Aside0.mk (HS.out.below hb); clear HS hb g0 g1 g2 g3 f0 f1 f2 f3 z0 z1 z2 z3 o0 o1 o2 o3 p0 p1; have HS := n_; clear n_; have g0 : w6.cell? ⟨w.heap.size, 0, none⟩ = some (.slice none 0 0) := (blk_cell HS.out.c2 0).trans rfl; have g1 : w6.cell? ⟨w.heap.size, 1, none⟩ = some (.slice none 0 0) := (blk_cell HS.out.c2 1).trans rfl; have g2 : w6.cell? ⟨w.heap.size, 2, none⟩ = some (.int .u64 0) := (blk_cell HS.out.c2 2).trans rfl; have g3 : w6.cell? ⟨w.heap.size, 3, none⟩ = some (.int .u64 0) := (blk_cell HS.out.c2 3).trans rfl; have f0 : w6.frozen? ⟨w.heap.size, 0, none⟩ = false := blk_frozen HS.out.c2 0; have f1 : w6.frozen? ⟨w.heap.size, 1, none⟩ = false := blk_frozen HS.out.c2 1; have f2 : w6.frozen? ⟨w.heap.size, 2, none⟩ = false := blk_frozen HS.out.c2 2; have f3 : w6.frozen? ⟨w.heap.size, 3, none⟩ = false := blk_frozen HS.out.c2 3; have z0 : w6.cell? ⟨w.heap.size + 1, 0, none⟩ = some (.slice none 0 0) := (blk_cell HS.out.c4 0).trans rfl; have z1 : w6.cell? ⟨w.heap.size + 1, 1, none⟩ = some (.slice none 0 0) := (blk_cell HS.out.c4 1).trans rfl; have z2 : w6.cell? ⟨w.heap.size + 1, 2, none⟩ = some (.int .u64 0) := (blk_cell HS.out.c4 2).trans rfl; have z3 : w6.cell? ⟨w.heap.size + 1, 3, none⟩ = some (.int .u64 0) := (blk_cell HS.out.c4 3).trans rfl; have o0 : w6.cell? ⟨gO, 0, none⟩ = some vP := (blk_cell HS.out.bo 0).trans rfl; have o1 : w6.cell? ⟨gO, 1, none⟩ = some (.slice AQ M.pols.length cQ) := (blk_cell HS.out.bo 1).trans rfl; have o2 : w6.cell? ⟨gO, 2, none⟩ = some (.int .u64 nx) := (blk_cell HS.out.bo 2).trans rfl; have o3 : w6.cell? ⟨gO, 3, none⟩ = some (.int .u64 cu) := (blk_cell HS.out.bo 3).trans rfl; have p0 : w6.frozen? ⟨gO, 0, none⟩ = false := blk_frozen HS.out.bo 0; have p1 : w6.frozen? ⟨gO, 1, none⟩ = false := blk_frozen HS.out.bo 1)
              obtain ⟨hb, hm⟩ := set4 HS.out.c2 (.slice none 0 0) (.slice none 0 0) (.int .u64 0) (.int .u64 0)
              refine bodyPost_ret (results_ct rfl _ _ w.heap.size 58 _ (0, 0) _ rfl hb Try.underlying58 rfl (by kernel_rfl)) rfl ?_
              rw [HX0.out]
              exact ⟨rfl, mv_below HS.out.hb hm (fun j hj => by omega) HS.out.hb.size⟩
          · have e4 : (pk != K2) = true := bne_iff_ne.2 ka
            have HX0 := Aside0.mk (HT2.out hpv0 (by rw [hldo, show decide (pk = K2) = false from decide_eq_false ka]; rfl))
            clear ka hldo hpv0
            go_wp2_with (go_at_call 34; refine (RNewest_calls _ vP AQ M.pols.length cQ nx cu (by have := HPL.out; omega)).mono ?_; rintro e w6 ⟨rfl, hb⟩; have n_ := Aside0.mk (HS.out.below hb); clear HS hb g0 g1 g2 g3 f0 f1 f2 f3 z0 z1 z2 z3 o0 o1 o2 o3 p0 p1; have HS := n_; clear n_; have g0 : w6.cell? ⟨w.heap.size, 0, none⟩ = some (.slice none 0 0) := (blk_cell HS.out.c2 0).trans rfl; have g1 : w6.cell? ⟨w.heap.size, 1, none⟩ = some (.slice none 0 0) := (blk_cell HS.out.c2 1).trans rfl; have g2 : w6.cell? ⟨w.heap.size, 2, none⟩ = some (.int .u64 0) := (blk_cell HS.out.c2 2).trans rfl; have g3 : w6.cell? ⟨w.heap.size, 3, none⟩ = some (.int .u64 0) := (blk_cell HS.out.c2 3).trans rfl; have f0 : w6.frozen? ⟨w.heap.size, 0, none⟩ = false := blk_frozen HS.out.c2 0; have f1 : w6.frozen? ⟨w.heap.size, 1, none⟩ = false := blk_frozen HS.out.c2 1; have f2 : w6.frozen? ⟨w.heap.size, 2, none⟩ = false := blk_frozen HS.out.c2 2; have f3 : w6.frozen? ⟨w.heap.size, 3, none⟩ = false := blk_frozen HS.out.c2 3; have z0 : w6.cell? ⟨w.heap.size + 1, 0, none⟩ = some (.slice none 0 0) := (blk_cell HS.out.c4 0).trans rfl; have z1 : w6.cell? ⟨w.heap.size + 1, 1, none⟩ = some (.slice none 0 0) := (blk_cell HS.out.c4 1).trans rfl; have z2 : w6.cell? ⟨w.heap.size + 1, 2, none⟩ = some (.int .u64 0) := (blk_cell HS.out.c4 2).trans rfl; have z3 : w6.cell? ⟨w.heap.size + 1, 3, none⟩ = some (.int .u64 0) := (blk_cell HS.out.c4 3).trans rfl; have o0 : w6.cell? ⟨gO, 0, none⟩ = some vP := (blk_cell HS.out.bo 0).trans rfl; have o1 : w6.cell? ⟨gO, 1, none⟩ = some (.slice AQ M.pols.length cQ) := (blk_cell HS.out.bo 1).trans rfl; have o2 : w6.cell? ⟨gO, 2, none⟩ = some (.int .u64 nx) := (blk_cell HS.out.bo 2).trans rfl; have o3 : w6.cell? ⟨gO, 3, none⟩ = some (.int .u64 cu) := (blk_cell HS.out.bo 3).trans rfl; have p0 : w6.frozen? ⟨gO, 0, none⟩ = false := blk_frozen HS.out.bo 0; have p1 : w6.frozen? ⟨gO, 1, none⟩ = false := blk_frozen HS.out.bo 1)
            obtain ⟨hb, hm⟩ := set4 HS.out.c2 (.slice none 0 0) (.slice none 0 0) (.int .u64 0) (.int .u64 0)
            refine bodyPost_ret (results_ct rfl _ _ w.heap.size 58 _ (0, 0) _ rfl hb Try.underlying58 rfl (by kernel_rfl)) rfl ?_
            rw [HX0.out]
            exact ⟨rfl, mv_below HS.out.hb hm (fun j hj => by omega) HS.out.hb.size⟩
        · skip
          have e3 : decide (9223372036854775808 ≤ pk) = false := decide_eq_false hi
          have hldo : ldOk M pk pb nw = (decide (pk ≠ 0) && decide (pk < nx) && decide (8 ≤ pb.length) && decide (pb.length ≤ 4104) && (decide (0 < verOf pb) && decide (verOf pb ≤ nw) && (decide (cu < pk) || decide (verOf pb = nw)))) := by unfold ldOk; rw [if_neg hi, HMI.out.2.2.1, HMI.out.2.2.2.1]
          by_cases ka : pk < 1
          · have e4 : decide (pk < 1) = true := decide_eq_true ka
            have := HKJ.out
            have HX0 := Aside0.mk (HT2.out hpv0 (by rw [hldo]; simp only [Bool.and_eq_false_iff, decide_eq_false_iff_not]; omega))
            clear ka hldo hpv0 hi
            go_wp2
            obtain ⟨hb, hm⟩ := set4 HS.out.c2 (.slice none 0 0) (.slice none 0 0) (.int .u64 0) (.int .u64 0)
            refine bodyPost_ret (results_ct rfl _ _ w.heap.size 58 _ (0, 0) _ rfl hb Try.underlying58 rfl (by kernel_rfl)) rfl ?_
            rw [HX0.out]
            exact ⟨rfl, mv_below HS.out.hb hm (fun j hj => by omega) HS.out.hb.size⟩
          · have e4 : decide (pk < 1) = false := decide_eq_false ka
            by_cases kb : nx ≤ pk
            · have e5 : decide (nx ≤ pk) = true := decide_eq_true kb
              have HX0 := Aside0.mk (HT2.out hpv0 (by rw [hldo]; simp only [Bool.and_eq_false_iff, decide_eq_false_iff_not]; omega))
              clear ka kb hldo hpv0 hi
              go_wp2
              obtain ⟨hb, hm⟩ := set4 HS.out.c2 (.slice none 0 0) (.slice none 0 0) (.int .u64 0) (.int .u64 0)
              refine bodyPost_ret (results_ct rfl _ _ w.heap.size 58 _ (0, 0) _ rfl hb Try.underlying58 rfl (by kernel_rfl)) rfl ?_
              rw [HX0.out]
              exact ⟨rfl, mv_below HS.out.hb hm (fun j hj => by omega) HS.out.hb.size⟩
            · have e5 : decide (nx ≤ pk) = false := decide_eq_false kb
              by_cases kc : pb.length < 8
              · have e6 : decide ((pb.length : Int) < 8) = true := decide_eq_true (by omega)
                have e6' : decide (pb.length < 8) = true := decide_eq_true kc
                have HX0 := Aside0.mk (HT2.out hpv0 (by rw [hldo]; simp only [Bool.and_eq_false_iff, decide_eq_false_iff_not]; omega))
                clear ka kb kc hldo hpv0 hi
                go_wp2
                obtain ⟨hb, hm⟩ := set4 HS.out.c2 (.slice none 0 0) (.slice none 0 0) (.int .u64 0) (.int .u64 0)
                refine bodyPost_ret (results_ct rfl _ _ w.heap.size 58 _ (0, 0) _ rfl hb Try.underlying58 rfl (by kernel_rfl)) rfl ?_
                rw [HX0.out]
                exact ⟨rfl, mv_below HS.out.hb hm (fun j hj => by omega) HS.out.hb.size⟩
              · have e6 : decide ((pb.length : Int) < 8) = false := decide_eq_false (by omega)
                have e6' : decide (pb.length < 8) = false := decide_eq_false kc
                by_cases kd : 4104 < pb.length
                · have e7 : decide (4104 < (pb.length : Int)) = true := decide_eq_true (by omega)
                  have e7' : decide (4104 < pb.length) = true := decide_eq_true kd
                  have HX0 := Aside0.mk (HT2.out hpv0 (by rw [hldo]; simp only [Bool.and_eq_false_iff, decide_eq_false_iff_not]; omega))
                  clear ka kb kc kd hldo hpv0 hi
                  go_wp2
                  obtain ⟨hb, hm⟩ := set4 HS.out.c2 (.slice none 0 0) (.slice none 0 0) (.int .u64 0) (.int .u64 0)
                  refine bodyPost_ret (results_ct rfl _ _ w.heap.size 58 _ (0, 0) _ rfl hb Try.underlying58 rfl (by kernel_rfl)) rfl ?_
                  rw [HX0.out]
                  exact ⟨rfl, mv_below HS.out.hb hm (fun j hj => by omega) HS.out.hb.size⟩
                · have e7 : decide (4104 < (pb.length : Int)) = false := decide_eq_false (by omega)
                  have e7' : decide (4104 < pb.length) = false := decide_eq_false kd
                  have hm8 : 8 ≤ pb.length := by omega
                  have HNUM := Aside0.mk (show marginaliaref16_Number.f 9 (pb.take 8) = some (verOf pb) from refNum_is _ (bytes_take HBJ.out 8) (by rw [List.length_take]; omega) 9 (by rw [List.length_take]; omega))
                  obtain ⟨i0, hi5, _, hsz5, _⟩ := info_parts info5
                  obtain ⟨tk1, tk2, tk3⟩ := print_take_of (P := Try.prog) (Value.int .u8) (0 : Int) 50 5 .i64 Try.underlying50 hi5 hsz5 A' c' pb 8 (by omega) (by omega) HCL.out
                  have tk1' : ∀ W : World, (Instr.slice 50 (.slice A' pb.length c') none (some (.int .i64 8)) none).run Try.prog W = .ok (.slice A' (pb.take 8).length c') W := tk1
                  have TK2 := Aside0.mk (show ∀ W, (Kd.int .u8).C W A' pb.length pb → (Kd.int .u8).C W A' (pb.take 8).length (pb.take 8) from fun W hC => Kd.C_of_reads (h1 := fun _ => rfl) (tk2 W (Kd.reads_of_C hC)))
                  have TK3 := Aside0.mk (show (pb.take 8).length ≤ c' from tk3)
                  obtain ⟨A2, dr1, dr2, dr3⟩ := print_drop_of (P := Try.prog) (Value.int .u8) (0 : Int) 50 5 .i64 Try.underlying50 hi5 hsz5 A' c' pb 8 (by omega) (by omega) HCL.out
                  obtain ⟨c2, hc2⟩ : ∃ c2, c' - (8 : Int).toNat = c2 := ⟨_, rfl⟩
                  rw [hc2] at dr1 dr3
                  have dr1' : ∀ W : World, (Instr.slice 50 (.slice A' pb.length c') (some (.int .i64 8)) none none).run Try.prog W = .ok (.slice A2 (pb.drop 8).length c2) W := dr1
                  have DR2 := Aside0.mk (show ∀ W, (Kd.int .u8).C W A' pb.length pb → (Kd.int .u8).C W A2 (pb.drop 8).length (pb.drop 8) from fun W hC => Kd.C_of_reads (h1 := fun _ => rfl) (dr2 W (Kd.reads_of_C hC)))
                  have HLV : Aside0 (ldL M pk pb = ⟨M.posts ++ [⟨pk, verOf pb, strOfNums (pb.drop 8)⟩], M.pols, M.next, M.cur⟩) := ⟨by unfold ldL; rw [if_neg hi, setP_end HMI.out.2.1 hpv0 _ rfl]⟩
                  have HKX := Aside0.mk hldo
                  obtain ⟨tk, htk⟩ : ∃ tk, pb.take 8 = tk := ⟨_, rfl⟩
                  obtain ⟨dr, hdr⟩ : ∃ dr, pb.drop 8 = dr := ⟨_, rfl⟩
                  obtain ⟨ver, hver⟩ : ∃ ver, verOf pb = ver := ⟨_, rfl⟩
                  rw [htk] at tk1' TK2 TK3 HNUM
                  rw [hdr] at dr1' DR2 HLV
                  rw [hver] at HNUM HLV HKX
                  obtain ⟨text, htext⟩ : ∃ text, strOfNums dr = text := ⟨_, rfl⟩
                  rw [htext] at HLV
                  have HPV := Aside0.mk hpv0
                  have KQ : Aside0 (¬ pk < 1 ∧ ¬ nx ≤ pk ∧ ¬ pb.length < 8 ∧ ¬ 4104 < pb.length) := ⟨ka, kb, kc, kd⟩
                  have HSa := Aside0.mk (show ∀ W, Below wx.heap.size wx W → (convert 50 9 (.slice A2 dr.length c2)).run Try.prog W = .ok (.string text) W ∧ Aside0 (Below wx.heap.size wx W) from fun W hW =>
                    ⟨(Kd.C_string (P := Try.prog) (A := A2) (c := c2) Try.underlying50 Try.underlying5 Try.underlying9 (DR2.out _ (Kd.C_below HS.out.cj hW))).trans (by rw [htext]), ⟨hW⟩⟩)
                  have MP := Aside0.mk (show M.posts.length ≤ 3000000 from by have h1 := HMI.out.2.2.2.2; have := HM.out; have := HJ0.out; have := HJ.out; have := of_decide_eq_true c1b; omega)
                  clear hpv0 hldo hi hm8 hi5 hsz5 tk1 tk2 tk3 dr1 dr2 dr3 hc2 htk hdr hver htext DR2 ka kb kc kd
                  go_upto_region 21 with (fail)
                  (try simp only [Act.put, List.setIfInBounds_toArray, List.set_cons_zero, List.set_cons_succ])
                  go_cut [14] (fun v14 wc1 => ∃ (g4 : Nat), v14 = .pointer (some ⟨g4, 0, none⟩) ∧ Aside0 (wc1.heap[g4]? = some (.cells #[.int .u64 pk, .int .u64 ver, .string text] 42 (0, 0))) ∧ Aside0 (wx.heap.size ≤ g4) ∧ Aside0 (Below wx.heap.size wx wc1))
                  case first =>
                    clear g0 g1 g2 g3 f0 f1 f2 f3 z0 z1 z2 z3 o0 o1 o2 o3 p0 p1
                    have hal : ∀ n i : Nat, ((wx.drewN n).alloc (.cells #[.int .u64 0, .int .u64 0, .string (⟨#[]⟩ : ByteArray)] 42)).cell? ⟨wx.heap.size, i, none⟩ = (#[.int .u64 0, .int .u64 0, .string (⟨#[]⟩ : ByteArray)] : Array Value)[i]? := fun n i => World.cell?_alloc_at _ _ _ _ rfl
                    have hfl : ∀ n i : Nat, ((wx.drewN n).alloc (.cells #[.int .u64 0, .int .u64 0, .string (⟨#[]⟩ : ByteArray)] 42)).frozen? ⟨wx.heap.size, i, none⟩ = false := fun n i => World.frozen?_alloc_at _ _ _ _ rfl
                    go_region_held3 (fun W => (convert 50 9 (.slice A2 dr.length c2)).run Try.prog W = .ok (.string text) W ∧ Aside0 (Below wx.heap.size wx W)) ((refine HSa.out _ ?_; repeat (first | (with_reducible first | exact Below.refl _ _ | apply below_alloc | apply pw_below_drewN | apply below_drew1 | refine below_set ?_ (Nat.le_refl _)) | exact Below.refl _ _))) (first | (go_at_call 35; (with_reducible refine (marginaliaref16_Number.calls 9 A' c' tk ver _ ?s1 ?s2 HNUM.out).mono ?_); (case s1 => exact TK2.out _ (Kd.C_below HS.out.cj (show Below wx.heap.size wx _ from by repeat (first | (with_reducible first | exact Below.refl _ _ | apply below_alloc | apply pw_below_drewN | apply below_drew1 | refine below_set ?_ (Nat.le_refl _)) | exact Below.refl _ _)))); (case s2 => exact TK3.out); rintro e w8 ⟨rfl, hd⟩; obtain ⟨n8, rfl⟩ := hd.out; clear hd))
                    all_goals
                      go_wp2
                      go_meet
                      case rel => exact ⟨wx.heap.size, rfl, ⟨by refine blk_put (cs := #[.int .u64 pk, .int .u64 ver, .string (⟨#[]⟩ : ByteArray)]) ?_ 2 _ rfl; refine blk_put (cs := #[.int .u64 pk, .int .u64 0, .string (⟨#[]⟩ : ByteArray)]) ?_ 1 _ rfl; refine blk_put (cs := #[.int .u64 0, .int .u64 0, .string (⟨#[]⟩ : ByteArray)]) ?_ 0 _ rfl; exact blk_new _ _⟩, ⟨Nat.le_refl _⟩, ⟨(by repeat (first | (with_reducible first | exact Below.refl _ _ | apply below_alloc | apply pw_below_drewN | apply below_drew1 | refine below_set ?_ (Nat.le_refl _)) | exact Below.refl _ _))⟩⟩
                  case rest =>
                    clear HSa TK2 TK3 tk1' dr1' HNUM
                    obtain ⟨g4, rfl, BK4, GE4, HB4⟩ := hcut
                    obtain ⟨AP, cP, eP⟩ := Kd.R_slice HS.out.rr.posts
                    rw [List.length_map] at eP
                    subst eP
                    have n_ := Aside0.mk (HS.out.below HB4.out)
                    clear HS HB4 g0 g1 g2 g3 f0 f1 f2 f3 z0 z1 z2 z3 o0 o1 o2 o3 p0 p1
                    have HS := n_
                    clear n_
                    have g0 : wc.cell? ⟨w.heap.size, 0, none⟩ = some (.slice none 0 0) := (blk_cell HS.out.c2 0).trans rfl
                    have g1 : wc.cell? ⟨w.heap.size, 1, none⟩ = some (.slice none 0 0) := (blk_cell HS.out.c2 1).trans rfl
                    have g2 : wc.cell? ⟨w.heap.size, 2, none⟩ = some (.int .u64 0) := (blk_cell HS.out.c2 2).trans rfl
                    have g3 : wc.cell? ⟨w.heap.size, 3, none⟩ = some (.int .u64 0) := (blk_cell HS.out.c2 3).trans rfl
                    have f0 : wc.frozen? ⟨w.heap.size, 0, none⟩ = false := blk_frozen HS.out.c2 0
                    have f1 : wc.frozen? ⟨w.heap.size, 1, none⟩ = false := blk_frozen HS.out.c2 1
                    have f2 : wc.frozen? ⟨w.heap.size, 2, none⟩ = false := blk_frozen HS.out.c2 2
                    have f3 : wc.frozen? ⟨w.heap.size, 3, none⟩ = false := blk_frozen HS.out.c2 3
                    have z0 : wc.cell? ⟨w.heap.size + 1, 0, none⟩ = some (.slice none 0 0) := (blk_cell HS.out.c4 0).trans rfl
                    have z1 : wc.cell? ⟨w.heap.size + 1, 1, none⟩ = some (.slice none 0 0) := (blk_cell HS.out.c4 1).trans rfl
                    have z2 : wc.cell? ⟨w.heap.size + 1, 2, none⟩ = some (.int .u64 0) := (blk_cell HS.out.c4 2).trans rfl
                    have z3 : wc.cell? ⟨w.heap.size + 1, 3, none⟩ = some (.int .u64 0) := (blk_cell HS.out.c4 3).trans rfl
                    have o0 : wc.cell? ⟨gO, 0, none⟩ = some (.slice AP M.posts.length cP) := (blk_cell HS.out.bo 0).trans rfl
                    have o1 : wc.cell? ⟨gO, 1, none⟩ = some vQ := (blk_cell HS.out.bo 1).trans rfl
                    have o2 : wc.cell? ⟨gO, 2, none⟩ = some (.int .u64 nx) := (blk_cell HS.out.bo 2).trans rfl
                    have o3 : wc.cell? ⟨gO, 3, none⟩ = some (.int .u64 cu) := (blk_cell HS.out.bo 3).trans rfl
                    have p0 : wc.frozen? ⟨gO, 0, none⟩ = false := blk_frozen HS.out.bo 0
                    have p1 : wc.frozen? ⟨gO, 1, none⟩ = false := blk_frozen HS.out.bo 1
                    have y0 : wc.cell? ⟨g4, 0, none⟩ = some (.int .u64 pk) := (blk_cell BK4.out 0).trans rfl
                    have y1 : wc.cell? ⟨g4, 1, none⟩ = some (.int .u64 ver) := (blk_cell BK4.out 1).trans rfl
                    have y2 : wc.cell? ⟨g4, 2, none⟩ = some (.string text) := (blk_cell BK4.out 2).trans rfl
                    by_cases va : ver < 1
                    · have v1 : decide (ver < 1) = true := decide_eq_true va
                      have HX0 := Aside0.mk (HT2.out HPV.out (by rw [HKX.out]; simp only [Bool.and_eq_false_iff, decide_eq_false_iff_not, Bool.or_eq_false_iff]; omega))
                      clear va
                      go_wp2
                      obtain ⟨hb, hm⟩ := set4 HS.out.c2 (.slice none 0 0) (.slice none 0 0) (.int .u64 0) (.int .u64 0)
                      refine bodyPost_ret (results_ct rfl _ _ w.heap.size 58 _ (0, 0) _ rfl hb Try.underlying58 rfl (by kernel_rfl)) rfl ?_
                      rw [HX0.out]
                      exact ⟨rfl, mv_below HS.out.hb hm (fun j hj => by omega) HS.out.hb.size⟩
                    · have v1 : decide (ver < 1) = false := decide_eq_false va
                      by_cases vb : nw < ver
                      · have v2 : decide (nw < ver) = true := decide_eq_true vb
                        have HX0 := Aside0.mk (HT2.out HPV.out (by rw [HKX.out]; simp only [Bool.and_eq_false_iff, decide_eq_false_iff_not, Bool.or_eq_false_iff]; omega))
                        clear va vb
                        go_wp2
                        obtain ⟨hb, hm⟩ := set4 HS.out.c2 (.slice none 0 0) (.slice none 0 0) (.int .u64 0) (.int .u64 0)
                        refine bodyPost_ret (results_ct rfl _ _ w.heap.size 58 _ (0, 0) _ rfl hb Try.underlying58 rfl (by kernel_rfl)) rfl ?_
                        rw [HX0.out]
                        exact ⟨rfl, mv_below HS.out.hb hm (fun j hj => by omega) HS.out.hb.size⟩
                      · have v2 : decide (nw < ver) = false := decide_eq_false vb
                        by_cases vc : pk ≤ cu
                        · have v3 : decide (pk ≤ cu) = true := decide_eq_true vc
                          by_cases vd : ver = nw
                          · have v4 : (ver != nw) = false := bne_eq_false_iff_eq.2 vd
                            have hlt : ldOk M pk pb nw = true := by
                              obtain ⟨r1, r2, r3, r4⟩ := KQ.out
                              rw [HKX.out]
                              simp only [Bool.and_eq_true, decide_eq_true_eq, Bool.or_eq_true]
                              omega
                            have HX3 := Aside0.mk (HT3.out HPV.out hlt)
                            have HNN := Aside0.mk (ldL_newest HMI.out.1 hlt)
                            have HUN := Aside0.mk (under_step HMI.out.2.1 (bs := pb) HPV.out)
                            clear va vb vc vd hlt
                            go_wp2_with (at_builtin; have hq1 : Kd.R k42 42 wc w.heap.size (fun k => some k = (Value.slice AP M.posts.length cP).ownBlock) (.slice AP M.posts.length cP) (M.posts.map lpS) := HS.out.rr.posts; have hq2 : Below w.heap.size w wc := HS.out.hb; have hq3 : w.heap.size ≤ wc.heap.size := HS.out.hb.size; have hq4 : (M.posts.map lpS).length ≤ 3000000 := (by rw [List.length_map]; exact MP.out); (refine posts_append (w0 := w) (W := wc) w.heap.size rfl (.tmp 142) (.tmp 144) rfl (.slice AP M.posts.length cP) (M.posts.map lpS) (lpS ⟨pk, ver, text⟩) rfl rfl hq1 hq2 hq3 hq4 ?_); clear hq1 hq2 hq3 hq4; intro v7 w7 hR7 hB7 hg7; obtain ⟨A7, c7, e7⟩ := Kd.R_slice hR7; subst e7; have HR7 := Aside0.mk hR7; have HB7 := Aside0.mk hB7; have HG7 := Aside0.mk hg7; have BO7 : Aside0 (w7.heap[gO]? = some (.cells #[.slice AP M.posts.length cP, vQ, .int .u64 nx, .int .u64 cu] 58)) := ⟨(hg7.block gO (blk_lt HS.out.bo) (Kd.R_ne HS.out.rr.posts HS.out.bo (by decide))).trans HS.out.bo⟩; clear hR7 hB7 hg7 g0 g1 g2 g3 f0 f1 f2 f3 z0 z1 z2 z3 o0 o1 o2 o3 p0 p1 y0 y1 y2; have o0 : w7.cell? ⟨gO, 0, none⟩ = some (.slice AP M.posts.length cP) := (blk_cell BO7.out 0).trans rfl; have p0 := blk_frozen BO7.out 0)
                            go_roundg (gk - 1)
                            case measure => have := HJ.out; have := of_decide_eq_true c1b; omega
                            case rel =>
                              have hJ := HJ.out
                              have hJ1 := of_decide_eq_true c1b
                              obtain ⟨m1, m2, m3, m4, m5⟩ := HMI.out
                              have hX3 := HX3.out
                              have hN := HNN.out
                              have hU := HUN.out
                              rw [HLV.out] at hX3 hN hU
                              obtain ⟨n1, n2, n3, n4, n5⟩ := HS.out.post HGO.out HR7.out HB7.out HG7.out
                              rw [show (M.posts.map lpS ++ [lpS ⟨pk, ver, text⟩]).length = M.posts.length + 1 from by simp] at n1 n2 n3 n4 n5
                              exact ⟨J + 1, ⟨M.posts ++ [⟨pk, ver, text⟩], M.pols, M.next, M.cur⟩, _, vQ, by first | rfl | rw [hjw], ⟨by omega⟩, ⟨hX3⟩, ⟨hN, by rw [HPK.out]; exact hU, m3, m4, by simp only [List.length_append, List.length_singleton]; omega⟩, ⟨n1⟩, ⟨n2⟩, ⟨n3⟩, ⟨n4⟩, ⟨n5⟩⟩
                          · have v4 : (ver != nw) = true := bne_iff_ne.2 vd
                            have HX0 := Aside0.mk (HT2.out HPV.out (by rw [HKX.out]; simp only [Bool.and_eq_false_iff, decide_eq_false_iff_not, Bool.or_eq_false_iff]; omega))
                            clear va vb vc vd
                            go_wp2
                            obtain ⟨hb, hm⟩ := set4 HS.out.c2 (.slice none 0 0) (.slice none 0 0) (.int .u64 0) (.int .u64 0)
                            refine bodyPost_ret (results_ct rfl _ _ w.heap.size 58 _ (0, 0) _ rfl hb Try.underlying58 rfl (by kernel_rfl)) rfl ?_
                            rw [HX0.out]
                            exact ⟨rfl, mv_below HS.out.hb hm (fun j hj => by omega) HS.out.hb.size⟩
                        · have v3 : decide (pk ≤ cu) = false := decide_eq_false vc
                          have vd := trivial
                          have hlt : ldOk M pk pb nw = true := by
                            obtain ⟨r1, r2, r3, r4⟩ := KQ.out
                            rw [HKX.out]
                            simp only [Bool.and_eq_true, decide_eq_true_eq, Bool.or_eq_true]
                            omega
                          have HX3 := Aside0.mk (HT3.out HPV.out hlt)
                          have HNN := Aside0.mk (ldL_newest HMI.out.1 hlt)
                          have HUN := Aside0.mk (under_step HMI.out.2.1 (bs := pb) HPV.out)
                          clear va vb vc vd hlt
                          go_wp2_with (at_builtin; have hq1 : Kd.R k42 42 wc w.heap.size (fun k => some k = (Value.slice AP M.posts.length cP).ownBlock) (.slice AP M.posts.length cP) (M.posts.map lpS) := HS.out.rr.posts; have hq2 : Below w.heap.size w wc := HS.out.hb; have hq3 : w.heap.size ≤ wc.heap.size := HS.out.hb.size; have hq4 : (M.posts.map lpS).length ≤ 3000000 := (by rw [List.length_map]; exact MP.out); (refine posts_append (w0 := w) (W := wc) w.heap.size rfl (.tmp 142) (.tmp 144) rfl (.slice AP M.posts.length cP) (M.posts.map lpS) (lpS ⟨pk, ver, text⟩) rfl rfl hq1 hq2 hq3 hq4 ?_); clear hq1 hq2 hq3 hq4; intro v7 w7 hR7 hB7 hg7; obtain ⟨A7, c7, e7⟩ := Kd.R_slice hR7; subst e7; have HR7 := Aside0.mk hR7; have HB7 := Aside0.mk hB7; have HG7 := Aside0.mk hg7; have BO7 : Aside0 (w7.heap[gO]? = some (.cells #[.slice AP M.posts.length cP, vQ, .int .u64 nx, .int .u64 cu] 58)) := ⟨(hg7.block gO (blk_lt HS.out.bo) (Kd.R_ne HS.out.rr.posts HS.out.bo (by decide))).trans HS.out.bo⟩; clear hR7 hB7 hg7 g0 g1 g2 g3 f0 f1 f2 f3 z0 z1 z2 z3 o0 o1 o2 o3 p0 p1 y0 y1 y2; have o0 : w7.cell? ⟨gO, 0, none⟩ = some (.slice AP M.posts.length cP) := (blk_cell BO7.out 0).trans rfl; have p0 := blk_frozen BO7.out 0)
                          go_roundg (gk - 1)
                          case measure => have := HJ.out; have := of_decide_eq_true c1b; omega
                          case rel =>
                            have hJ := HJ.out
                            have hJ1 := of_decide_eq_true c1b
                            obtain ⟨m1, m2, m3, m4, m5⟩ := HMI.out
                            have hX3 := HX3.out
                            have hN := HNN.out
                            have hU := HUN.out
                            rw [HLV.out] at hX3 hN hU
                            obtain ⟨n1, n2, n3, n4, n5⟩ := HS.out.post HGO.out HR7.out HB7.out HG7.out
                            rw [show (M.posts.map lpS ++ [lpS ⟨pk, ver, text⟩]).length = M.posts.length + 1 from by simp] at n1 n2 n3 n4 n5
                            exact ⟨J + 1, ⟨M.posts ++ [⟨pk, ver, text⟩], M.pols, M.next, M.cur⟩, _, vQ, by first | rfl | rw [hjw], ⟨by omega⟩, ⟨hX3⟩, ⟨hN, by rw [HPK.out]; exact hU, m3, m4, by simp only [List.length_append, List.length_singleton]; omega⟩, ⟨n1⟩, ⟨n2⟩, ⟨n3⟩, ⟨n4⟩, ⟨n5⟩⟩
      · have e1 : decide (0 < J) = true := decide_eq_true (by have := HJ.out; omega)
        have hpv : prevK ps J = some (rd_T52 ps (J - 1)).f0 := if_neg cz
        obtain ⟨J1, hJ1⟩ : ∃ J1, J - 1 = J1 := ⟨_, rfl⟩
        rw [hJ1] at hpv
        obtain ⟨ad2, A2', c2', ea, x0, x1, _, _⟩ := at_T52 HC.out J1 (by have := HJ.out; omega) (by have := of_eq_true q3; omega)
        cases ea
        have q4 := eq_true (show 0 ≤ J1 by have := HJ.out; omega)
        have q5 := eq_true (show J1 < (ps.length : Int) by have := of_eq_true q3; omega)
        obtain ⟨pp, hpp⟩ : ∃ pp, (rd_T52 ps J1).f0 = pp := ⟨_, rfl⟩
        rw [hpp] at hpv x0
        have hjw1 : wrap64 (J - 1) = J1 := by have := HJ.out; have := HM.out; have := HJ0.out; unfold wrap64; omega
        have hjw2 : IntKind.i64.wrap (J - 1) = J1 := by have := HJ.out; have := HM.out; have := HJ0.out; simp [IntKind.wrap, IntKind.bits, IntKind.signed]; omega
        replace x0 := (HS.out.hb.cell (World.block_lt_of_cell? w _ x0)).trans x0
        clear cz hJ1 hpp x1
        by_cases ck : pp < pk
        · have e2 : decide (pk ≤ pp) = false := decide_eq_false (by omega)
          have hpv0 : prevOk (prevK ps J) pk = true := by rw [hpv]; exact decide_eq_true ck
          clear st0 ck hpv
          by_cases hi : 9223372036854775808 ≤ pk
          · have e3 : decide (9223372036854775808 ≤ pk) = true := decide_eq_true hi
            obtain ⟨AQ, cQ, eQ⟩ := Kd.R_slice HS.out.rr.pols
            subst eQ
            have HPL := Aside0.mk (show (M.pols.length : Int) ≤ 100 from by have := HNW.out; have h9 : (M.pols.length : Int) ≤ nw := HMI.out.1; omega)
            obtain ⟨K1, hK1⟩ : ∃ K1, K1 = 9223372036854775808 + (M.pols.length : Int) := ⟨_, rfl⟩
            obtain ⟨K2, hK2⟩ : ∃ K2, K2 = K1 + 1 := ⟨_, rfl⟩
            have hw2 : IntKind.u64.wrap (9223372036854775808 + (M.pols.length : Int)) = K1 := by have := HPL.out; rw [hK1]; simp [IntKind.wrap, IntKind.bits, IntKind.signed]; omega
            have hw3 : IntKind.u64.wrap (K1 + 1) = K2 := by have := HPL.out; rw [hK2, hK1]; simp [IntKind.wrap, IntKind.bits, IntKind.signed]; omega
            have hldo : ldOk M pk pb nw = (decide (pk = K2) && decide (M.newest ≠ nw) && decide (pb.length ≤ 2000)) := by rw [hK2, hK1]; exact if_pos hi
            have hLD : ldL M pk pb = ⟨M.posts, M.pols ++ [strOfNums pb], M.next, M.cur⟩ := if_pos hi
            clear hK1 hK2 hi
            by_cases ka : pk = K2
            · have e4 : (pk != K2) = false := bne_eq_false_iff_eq.2 ka
              by_cases kb : (M.pols.length : Int) < nw
              · have e5 : decide (nw ≤ (M.pols.length : Int)) = false := decide_eq_false (by omega)
                by_cases kc : pb.length ≤ 2000
                · have e6 : decide (2000 < (pb.length : Int)) = false := decide_eq_false (by omega)
                  have hlt : ldOk M pk pb nw = true := by rw [hldo, show decide (pk = K2) = true from decide_eq_true ka, show decide (pb.length ≤ 2000) = true from decide_eq_true kc, show decide (M.newest ≠ nw) = true from decide_eq_true (fun h => by have h9 : (M.pols.length : Int) = nw := h; omega)]; rfl
                  have HX3 := Aside0.mk (HT3.out hpv0 hlt)
                  have HNN := Aside0.mk (ldL_newest HMI.out.1 hlt)
                  have HUN := Aside0.mk (under_step HMI.out.2.1 (bs := pb) hpv0)
                  obtain ⟨text, htext⟩ : ∃ text, strOfNums pb = text := ⟨_, rfl⟩
                  rw [htext] at hLD
                  have HTX := Aside0.mk htext
                  have HLD := Aside0.mk hLD
                  clear ka kb kc hldo hpv0 hlt hLD htext
                  go_wp2_with (first
                    | (go_at_call 34; refine (RNewest_calls _ vP AQ M.pols.length cQ nx cu (by have := HPL.out; omega)).mono ?_; rintro e w6 ⟨rfl, hb⟩; have n_ := Aside0.mk (HS.out.below hb); clear HS hb g0 g1 g2 g3 f0 f1 f2 f3 z0 z1 z2 z3 o0 o1 o2 o3 p0 p1; have HS := n_; clear n_; have g0 : w6.cell? ⟨w.heap.size, 0, none⟩ = some (.slice none 0 0) := (blk_cell HS.out.c2 0).trans rfl; have g1 : w6.cell? ⟨w.heap.size, 1, none⟩ = some (.slice none 0 0) := (blk_cell HS.out.c2 1).trans rfl; have g2 : w6.cell? ⟨w.heap.size, 2, none⟩ = some (.int .u64 0) := (blk_cell HS.out.c2 2).trans rfl; have g3 : w6.cell? ⟨w.heap.size, 3, none⟩ = some (.int .u64 0) := (blk_cell HS.out.c2 3).trans rfl; have f0 : w6.frozen? ⟨w.heap.size, 0, none⟩ = false := blk_frozen HS.out.c2 0; have f1 : w6.frozen? ⟨w.heap.size, 1, none⟩ = false := blk_frozen HS.out.c2 1; have f2 : w6.frozen? ⟨w.heap.size, 2, none⟩ = false := blk_frozen HS.out.c2 2; have f3 : w6.frozen? ⟨w.heap.size, 3, none⟩ = false := blk_frozen HS.out.c2 3; have z0 : w6.cell? ⟨w.heap.size + 1, 0, none⟩ = some (.slice none 0 0) := (blk_cell HS.out.c4 0).trans rfl; have z1 : w6.cell? ⟨w.heap.size + 1, 1, none⟩ = some (.slice none 0 0) := (blk_cell HS.out.c4 1).trans rfl; have z2 : w6.cell? ⟨w.heap.size + 1, 2, none⟩ = some (.int .u64 0) := (blk_cell HS.out.c4 2).trans rfl; have z3 : w6.cell? ⟨w.heap.size + 1, 3, none⟩ = some (.int .u64 0) := (blk_cell HS.out.c4 3).trans rfl; have o0 : w6.cell? ⟨gO, 0, none⟩ = some vP := (blk_cell HS.out.bo 0).trans rfl; have o1 : w6.cell? ⟨gO, 1, none⟩ = some (.slice AQ M.pols.length cQ) := (blk_cell HS.out.bo 1).trans rfl; have o2 : w6.cell? ⟨gO, 2, none⟩ = some (.int .u64 nx) := (blk_cell HS.out.bo 2).trans rfl; have o3 : w6.cell? ⟨gO, 3, none⟩ = some (.int .u64 cu) := (blk_cell HS.out.bo 3).trans rfl; have p0 : w6.frozen? ⟨gO, 0, none⟩ = false := blk_frozen HS.out.bo 0; have p1 : w6.frozen? ⟨gO, 1, none⟩ = false := blk_frozen HS.out.bo 1; have hcv := Kd.C_string (P := Try.prog) (A := A') (c := c') Try.underlying50 Try.underlying5 Try.underlying9 HS.out.cj; rw [HTX.out] at hcv)
                    | (at_builtin; (have hq1 : Kd.R Kd.string 9 w6 w.heap.size (fun k => some k = (Value.slice AQ M.pols.length cQ).ownBlock) (.slice AQ M.pols.length cQ) M.pols := HS.out.rr.pols); (have hq2 : Below w.heap.size w w6 := HS.out.hb); (have hq3 : w.heap.size ≤ w6.heap.size := HS.out.hb.size); have hq4 : M.pols.length ≤ 1000000 := (by have := HPL.out; omega); (refine pols_append (w0 := w) (W := w6) (text := text) w.heap.size rfl (.tmp 88) (.tmp 91) rfl (.slice AQ M.pols.length cQ) M.pols rfl rfl hq1 hq2 hq3 hq4 ?_); clear hq1 hq2 hq3 hq4; intro v7 w7 hR7 hB7 hg7; obtain ⟨A7, c7, e7⟩ := Kd.R_slice hR7; subst e7; have HR7 := Aside0.mk hR7; have HB7 := Aside0.mk hB7; have HG7 := Aside0.mk hg7; have BO7 : Aside0 (w7.heap[gO]? = some (.cells #[vP, .slice AQ M.pols.length cQ, .int .u64 nx, .int .u64 cu] 58)) := ⟨(hg7.block gO (blk_lt HS.out.bo) (Kd.R_ne HS.out.rr.pols HS.out.bo (by decide))).trans HS.out.bo⟩; clear hR7 hB7 hg7 g0 g1 g2 g3 f0 f1 f2 f3 z0 z1 z2 z3 o0 o1 o2 o3 p0 p1; have o1 : w7.cell? ⟨gO, 1, none⟩ = some (.slice AQ M.pols.length cQ) := (blk_cell BO7.out 1).trans rfl; have p1 := blk_frozen BO7.out 1))
                  go_roundg (gk - 1)
                  case measure => have := HJ.out; have := of_decide_eq_true c1b; omega
                  case rel =>
                    have hJ := HJ.out
                    have hJ1 := of_decide_eq_true c1b
                    obtain ⟨m1, m2, m3, m4, m5⟩ := HMI.out
                    have hX3 := HX3.out
                    have hN := HNN.out
                    have hU := HUN.out
                    rw [HLD.out] at hX3 hN hU
                    obtain ⟨n1, n2, n3, n4, n5⟩ := HS.out.pol HGO.out HR7.out HB7.out HG7.out
                    rw [show (M.pols ++ [text]).length = M.pols.length + 1 from List.length_append ..] at n1 n2 n3 n4 n5
                    exact ⟨J + 1, ⟨M.posts, M.pols ++ [text], M.next, M.cur⟩, vP, _, by first | rfl | rw [hjw], ⟨by omega⟩, ⟨hX3⟩, ⟨hN, by rw [HPK.out]; exact hU, m3, m4, Nat.le_trans m5 (by omega)⟩, ⟨n1⟩, ⟨n2⟩, ⟨n3⟩, ⟨n4⟩, ⟨n5⟩⟩
                · have e6 : decide (2000 < (pb.length : Int)) = true := decide_eq_true (by omega)
                  have HX0 := Aside0.mk (HT2.out hpv0 (by rw [hldo, show decide (pb.length ≤ 2000) = false from decide_eq_false kc, Bool.and_false]))
                  clear ka kb kc hldo hpv0
                  go_wp2_with (go_at_call 34; refine (RNewest_calls _ vP AQ M.pols.length cQ nx cu (by have := HPL.out; omega)).mono ?_; rintro e w6 ⟨rfl, hb⟩; have n_ := Aside0.mk (HS.out.below hb); clear HS hb g0 g1 g2 g3 f0 f1 f2 f3 z0 z1 z2 z3 o0 o1 o2 o3 p0 p1; have HS := n_; clear n_; have g0 : w6.cell? ⟨w.heap.size, 0, none⟩ = some (.slice none 0 0) := (blk_cell HS.out.c2 0).trans rfl; have g1 : w6.cell? ⟨w.heap.size, 1, none⟩ = some (.slice none 0 0) := (blk_cell HS.out.c2 1).trans rfl; have g2 : w6.cell? ⟨w.heap.size, 2, none⟩ = some (.int .u64 0) := (blk_cell HS.out.c2 2).trans rfl; have g3 : w6.cell? ⟨w.heap.size, 3, none⟩ = some (.int .u64 0) := (blk_cell HS.out.c2 3).trans rfl; have f0 : w6.frozen? ⟨w.heap.size, 0, none⟩ = false := blk_frozen HS.out.c2 0; have f1 : w6.frozen? ⟨w.heap.size, 1, none⟩ = false := blk_frozen HS.out.c2 1; have f2 : w6.frozen? ⟨w.heap.size, 2, none⟩ = false := blk_frozen HS.out.c2 2; have f3 : w6.frozen? ⟨w.heap.size, 3, none⟩ = false := blk_frozen HS.out.c2 3; have z0 : w6.cell? ⟨w.heap.size + 1, 0, none⟩ = some (.slice none 0 0) := (blk_cell HS.out.c4 0).trans rfl; have z1 : w6.cell? ⟨w.heap.size + 1, 1, none⟩ = some (.slice none 0 0) := (blk_cell HS.out.c4 1).trans rfl; have z2 : w6.cell? ⟨w.heap.size + 1, 2, none⟩ = some (.int .u64 0) := (blk_cell HS.out.c4 2).trans rfl; have z3 : w6.cell? ⟨w.heap.size + 1, 3, none⟩ = some (.int .u64 0) := (blk_cell HS.out.c4 3).trans rfl; have o0 : w6.cell? ⟨gO, 0, none⟩ = some vP := (blk_cell HS.out.bo 0).trans rfl; have o1 : w6.cell? ⟨gO, 1, none⟩ = some (.slice AQ M.pols.length cQ) := (blk_cell HS.out.bo 1).trans rfl; have o2 : w6.cell? ⟨gO, 2, none⟩ = some (.int .u64 nx) := (blk_cell HS.out.bo 2).trans rfl; have o3 : w6.cell? ⟨gO, 3, none⟩ = some (.int .u64 cu) := (blk_cell HS.out.bo 3).trans rfl; have p0 : w6.frozen? ⟨gO, 0, none⟩ = false := blk_frozen HS.out.bo 0; have p1 : w6.frozen? ⟨gO, 1, none⟩ = false := blk_frozen HS.out.bo 1)
                  obtain ⟨hb, hm⟩ := set4 HS.out.c2 (.slice none 0 0) (.slice none 0 0) (.int .u64 0) (.int .u64 0)
                  refine bodyPost_ret (results_ct rfl _ _ w.heap.size 58 _ (0, 0) _ rfl hb Try.underlying58 rfl (by kernel_rfl)) rfl ?_
                  rw [HX0.out]
                  exact ⟨rfl, mv_below HS.out.hb hm (fun j hj => by omega) HS.out.hb.size⟩
              · have e5 : decide (nw ≤ (M.pols.length : Int)) = true := decide_eq_true (by omega)
                have hnn : M.newest = nw := by have h9 : (M.pols.length : Int) ≤ nw := HMI.out.1; show (M.pols.length : Int) = nw; omega
                have HX0 := Aside0.mk (HT2.out hpv0 (by rw [hldo, show decide (M.newest ≠ nw) = false from decide_eq_false (fun h => h hnn), Bool.and_false, Bool.false_and]))
                clear ka kb hldo hpv0 hnn
                go_wp2_with (go_at_call 34; refine (RNewest_calls _ vP AQ M.pols.length cQ nx cu (by have := HPL.out; omega)).mono ?_; rintro e w6 ⟨rfl, hb⟩; have n_ := Aside0.mk (HS.out.below hb); clear HS hb g0 g1 g2 g3 f0 f1 f2 f3 z0 z1 z2 z3 o0 o1 o2 o3 p0 p1; have HS := n_; clear n_; have g0 : w6.cell? ⟨w.heap.size, 0, none⟩ = some (.slice none 0 0) := (blk_cell HS.out.c2 0).trans rfl; have g1 : w6.cell? ⟨w.heap.size, 1, none⟩ = some (.slice none 0 0) := (blk_cell HS.out.c2 1).trans rfl; have g2 : w6.cell? ⟨w.heap.size, 2, none⟩ = some (.int .u64 0) := (blk_cell HS.out.c2 2).trans rfl; have g3 : w6.cell? ⟨w.heap.size, 3, none⟩ = some (.int .u64 0) := (blk_cell HS.out.c2 3).trans rfl; have f0 : w6.frozen? ⟨w.heap.size, 0, none⟩ = false := blk_frozen HS.out.c2 0; have f1 : w6.frozen? ⟨w.heap.size, 1, none⟩ = false := blk_frozen HS.out.c2 1; have f2 : w6.frozen? ⟨w.heap.size, 2, none⟩ = false := blk_frozen HS.out.c2 2; have f3 : w6.frozen? ⟨w.heap.size, 3, none⟩ = false := blk_frozen HS.out.c2 3; have z0 : w6.cell? ⟨w.heap.size + 1, 0, none⟩ = some (.slice none 0 0) := (blk_cell HS.out.c4 0).trans rfl; have z1 : w6.cell? ⟨w.heap.size + 1, 1, none⟩ = some (.slice none 0 0) := (blk_cell HS.out.c4 1).trans rfl; have z2 : w6.cell? ⟨w.heap.size + 1, 2, none⟩ = some (.int .u64 0) := (blk_cell HS.out.c4 2).trans rfl; have z3 : w6.cell? ⟨w.heap.size + 1, 3, none⟩ = some (.int .u64 0) := (blk_cell HS.out.c4 3).trans rfl; have o0 : w6.cell? ⟨gO, 0, none⟩ = some vP := (blk_cell HS.out.bo 0).trans rfl; have o1 : w6.cell? ⟨gO, 1, none⟩ = some (.slice AQ M.pols.length cQ) := (blk_cell HS.out.bo 1).trans rfl; have o2 : w6.cell? ⟨gO, 2, none⟩ = some (.int .u64 nx) := (blk_cell HS.out.bo 2).trans rfl; have o3 : w6.cell? ⟨gO, 3, none⟩ = some (.int .u64 cu) := (blk_cell HS.out.bo 3).trans rfl; have p0 : w6.frozen? ⟨gO, 0, none⟩ = false := blk_frozen HS.out.bo 0; have p1 : w6.frozen? ⟨gO, 1, none⟩ = false := blk_frozen HS.out.bo 1)
                obtain ⟨hb, hm⟩ := set4 HS.out.c2 (.slice none 0 0) (.slice none 0 0) (.int .u64 0) (.int .u64 0)
                refine bodyPost_ret (results_ct rfl _ _ w.heap.size 58 _ (0, 0) _ rfl hb Try.underlying58 rfl (by kernel_rfl)) rfl ?_
                rw [HX0.out]
                exact ⟨rfl, mv_below HS.out.hb hm (fun j hj => by omega) HS.out.hb.size⟩
            · have e4 : (pk != K2) = true := bne_iff_ne.2 ka
              have HX0 := Aside0.mk (HT2.out hpv0 (by rw [hldo, show decide (pk = K2) = false from decide_eq_false ka]; rfl))
              clear ka hldo hpv0
              go_wp2_with (go_at_call 34; refine (RNewest_calls _ vP AQ M.pols.length cQ nx cu (by have := HPL.out; omega)).mono ?_; rintro e w6 ⟨rfl, hb⟩; have n_ := Aside0.mk (HS.out.below hb); clear HS hb g0 g1 g2 g3 f0 f1 f2 f3 z0 z1 z2 z3 o0 o1 o2 o3 p0 p1; have HS := n_; clear n_; have g0 : w6.cell? ⟨w.heap.size, 0, none⟩ = some (.slice none 0 0) := (blk_cell HS.out.c2 0).trans rfl; have g1 : w6.cell? ⟨w.heap.size, 1, none⟩ = some (.slice none 0 0) := (blk_cell HS.out.c2 1).trans rfl; have g2 : w6.cell? ⟨w.heap.size, 2, none⟩ = some (.int .u64 0) := (blk_cell HS.out.c2 2).trans rfl; have g3 : w6.cell? ⟨w.heap.size, 3, none⟩ = some (.int .u64 0) := (blk_cell HS.out.c2 3).trans rfl; have f0 : w6.frozen? ⟨w.heap.size, 0, none⟩ = false := blk_frozen HS.out.c2 0; have f1 : w6.frozen? ⟨w.heap.size, 1, none⟩ = false := blk_frozen HS.out.c2 1; have f2 : w6.frozen? ⟨w.heap.size, 2, none⟩ = false := blk_frozen HS.out.c2 2; have f3 : w6.frozen? ⟨w.heap.size, 3, none⟩ = false := blk_frozen HS.out.c2 3; have z0 : w6.cell? ⟨w.heap.size + 1, 0, none⟩ = some (.slice none 0 0) := (blk_cell HS.out.c4 0).trans rfl; have z1 : w6.cell? ⟨w.heap.size + 1, 1, none⟩ = some (.slice none 0 0) := (blk_cell HS.out.c4 1).trans rfl; have z2 : w6.cell? ⟨w.heap.size + 1, 2, none⟩ = some (.int .u64 0) := (blk_cell HS.out.c4 2).trans rfl; have z3 : w6.cell? ⟨w.heap.size + 1, 3, none⟩ = some (.int .u64 0) := (blk_cell HS.out.c4 3).trans rfl; have o0 : w6.cell? ⟨gO, 0, none⟩ = some vP := (blk_cell HS.out.bo 0).trans rfl; have o1 : w6.cell? ⟨gO, 1, none⟩ = some (.slice AQ M.pols.length cQ) := (blk_cell HS.out.bo 1).trans rfl; have o2 : w6.cell? ⟨gO, 2, none⟩ = some (.int .u64 nx) := (blk_cell HS.out.bo 2).trans rfl; have o3 : w6.cell? ⟨gO, 3, none⟩ = some (.int .u64 cu) := (blk_cell HS.out.bo 3).trans rfl; have p0 : w6.frozen? ⟨gO, 0, none⟩ = false := blk_frozen HS.out.bo 0; have p1 : w6.frozen? ⟨gO, 1, none⟩ = false := blk_frozen HS.out.bo 1)
              obtain ⟨hb, hm⟩ := set4 HS.out.c2 (.slice none 0 0) (.slice none 0 0) (.int .u64 0) (.int .u64 0)
              refine bodyPost_ret (results_ct rfl _ _ w.heap.size 58 _ (0, 0) _ rfl hb Try.underlying58 rfl (by kernel_rfl)) rfl ?_
              rw [HX0.out]
              exact ⟨rfl, mv_below HS.out.hb hm (fun j hj => by omega) HS.out.hb.size⟩
          · skip
            have e3 : decide (9223372036854775808 ≤ pk) = false := decide_eq_false hi
            have hldo : ldOk M pk pb nw = (decide (pk ≠ 0) && decide (pk < nx) && decide (8 ≤ pb.length) && decide (pb.length ≤ 4104) && (decide (0 < verOf pb) && decide (verOf pb ≤ nw) && (decide (cu < pk) || decide (verOf pb = nw)))) := by unfold ldOk; rw [if_neg hi, HMI.out.2.2.1, HMI.out.2.2.2.1]
            by_cases ka : pk < 1
            · have e4 : decide (pk < 1) = true := decide_eq_true ka
              have := HKJ.out
              have HX0 := Aside0.mk (HT2.out hpv0 (by rw [hldo]; simp only [Bool.and_eq_false_iff, decide_eq_false_iff_not]; omega))
              clear ka hldo hpv0 hi
              go_wp2
              obtain ⟨hb, hm⟩ := set4 HS.out.c2 (.slice none 0 0) (.slice none 0 0) (.int .u64 0) (.int .u64 0)
              refine bodyPost_ret (results_ct rfl _ _ w.heap.size 58 _ (0, 0) _ rfl hb Try.underlying58 rfl (by kernel_rfl)) rfl ?_
              rw [HX0.out]
              exact ⟨rfl, mv_below HS.out.hb hm (fun j hj => by omega) HS.out.hb.size⟩
            · have e4 : decide (pk < 1) = false := decide_eq_false ka
              by_cases kb : nx ≤ pk
              · have e5 : decide (nx ≤ pk) = true := decide_eq_true kb
                have HX0 := Aside0.mk (HT2.out hpv0 (by rw [hldo]; simp only [Bool.and_eq_false_iff, decide_eq_false_iff_not]; omega))
                clear ka kb hldo hpv0 hi
                go_wp2
                obtain ⟨hb, hm⟩ := set4 HS.out.c2 (.slice none 0 0) (.slice none 0 0) (.int .u64 0) (.int .u64 0)
                refine bodyPost_ret (results_ct rfl _ _ w.heap.size 58 _ (0, 0) _ rfl hb Try.underlying58 rfl (by kernel_rfl)) rfl ?_
                rw [HX0.out]
                exact ⟨rfl, mv_below HS.out.hb hm (fun j hj => by omega) HS.out.hb.size⟩
              · have e5 : decide (nx ≤ pk) = false := decide_eq_false kb
                by_cases kc : pb.length < 8
                · have e6 : decide ((pb.length : Int) < 8) = true := decide_eq_true (by omega)
                  have e6' : decide (pb.length < 8) = true := decide_eq_true kc
                  have HX0 := Aside0.mk (HT2.out hpv0 (by rw [hldo]; simp only [Bool.and_eq_false_iff, decide_eq_false_iff_not]; omega))
                  clear ka kb kc hldo hpv0 hi
                  go_wp2
                  obtain ⟨hb, hm⟩ := set4 HS.out.c2 (.slice none 0 0) (.slice none 0 0) (.int .u64 0) (.int .u64 0)
                  refine bodyPost_ret (results_ct rfl _ _ w.heap.size 58 _ (0, 0) _ rfl hb Try.underlying58 rfl (by kernel_rfl)) rfl ?_
                  rw [HX0.out]
                  exact ⟨rfl, mv_below HS.out.hb hm (fun j hj => by omega) HS.out.hb.size⟩
                · have e6 : decide ((pb.length : Int) < 8) = false := decide_eq_false (by omega)
                  have e6' : decide (pb.length < 8) = false := decide_eq_false kc
                  by_cases kd : 4104 < pb.length
                  · have e7 : decide (4104 < (pb.length : Int)) = true := decide_eq_true (by omega)
                    have e7' : decide (4104 < pb.length) = true := decide_eq_true kd
                    have HX0 := Aside0.mk (HT2.out hpv0 (by rw [hldo]; simp only [Bool.and_eq_false_iff, decide_eq_false_iff_not]; omega))
                    clear ka kb kc kd hldo hpv0 hi
                    go_wp2
                    obtain ⟨hb, hm⟩ := set4 HS.out.c2 (.slice none 0 0) (.slice none 0 0) (.int .u64 0) (.int .u64 0)
                    refine bodyPost_ret (results_ct rfl _ _ w.heap.size 58 _ (0, 0) _ rfl hb Try.underlying58 rfl (by kernel_rfl)) rfl ?_
                    rw [HX0.out]
                    exact ⟨rfl, mv_below HS.out.hb hm (fun j hj => by omega) HS.out.hb.size⟩
                  · have e7 : decide (4104 < (pb.length : Int)) = false := decide_eq_false (by omega)
                    have e7' : decide (4104 < pb.length) = false := decide_eq_false kd
                    have hm8 : 8 ≤ pb.length := by omega
                    have HNUM := Aside0.mk (show marginaliaref16_Number.f 9 (pb.take 8) = some (verOf pb) from refNum_is _ (bytes_take HBJ.out 8) (by rw [List.length_take]; omega) 9 (by rw [List.length_take]; omega))
                    obtain ⟨i0, hi5, _, hsz5, _⟩ := info_parts info5
                    obtain ⟨tk1, tk2, tk3⟩ := print_take_of (P := Try.prog) (Value.int .u8) (0 : Int) 50 5 .i64 Try.underlying50 hi5 hsz5 A' c' pb 8 (by omega) (by omega) HCL.out
                    have tk1' : ∀ W : World, (Instr.slice 50 (.slice A' pb.length c') none (some (.int .i64 8)) none).run Try.prog W = .ok (.slice A' (pb.take 8).length c') W := tk1
                    have TK2 := Aside0.mk (show ∀ W, (Kd.int .u8).C W A' pb.length pb → (Kd.int .u8).C W A' (pb.take 8).length (pb.take 8) from fun W hC => Kd.C_of_reads (h1 := fun _ => rfl) (tk2 W (Kd.reads_of_C hC)))
                    have TK3 := Aside0.mk (show (pb.take 8).length ≤ c' from tk3)
                    obtain ⟨A2, dr1, dr2, dr3⟩ := print_drop_of (P := Try.prog) (Value.int .u8) (0 : Int) 50 5 .i64 Try.underlying50 hi5 hsz5 A' c' pb 8 (by omega) (by omega) HCL.out
                    obtain ⟨c2, hc2⟩ : ∃ c2, c' - (8 : Int).toNat = c2 := ⟨_, rfl⟩
                    rw [hc2] at dr1 dr3
                    have dr1' : ∀ W : World, (Instr.slice 50 (.slice A' pb.length c') (some (.int .i64 8)) none none).run Try.prog W = .ok (.slice A2 (pb.drop 8).length c2) W := dr1
                    have DR2 := Aside0.mk (show ∀ W, (Kd.int .u8).C W A' pb.length pb → (Kd.int .u8).C W A2 (pb.drop 8).length (pb.drop 8) from fun W hC => Kd.C_of_reads (h1 := fun _ => rfl) (dr2 W (Kd.reads_of_C hC)))
                    have HLV : Aside0 (ldL M pk pb = ⟨M.posts ++ [⟨pk, verOf pb, strOfNums (pb.drop 8)⟩], M.pols, M.next, M.cur⟩) := ⟨by unfold ldL; rw [if_neg hi, setP_end HMI.out.2.1 hpv0 _ rfl]⟩
                    have HKX := Aside0.mk hldo
                    obtain ⟨tk, htk⟩ : ∃ tk, pb.take 8 = tk := ⟨_, rfl⟩
                    obtain ⟨dr, hdr⟩ : ∃ dr, pb.drop 8 = dr := ⟨_, rfl⟩
                    obtain ⟨ver, hver⟩ : ∃ ver, verOf pb = ver := ⟨_, rfl⟩
                    rw [htk] at tk1' TK2 TK3 HNUM
                    rw [hdr] at dr1' DR2 HLV
                    rw [hver] at HNUM HLV HKX
                    obtain ⟨text, htext⟩ : ∃ text, strOfNums dr = text := ⟨_, rfl⟩
                    rw [htext] at HLV
                    have HPV := Aside0.mk hpv0
                    have KQ : Aside0 (¬ pk < 1 ∧ ¬ nx ≤ pk ∧ ¬ pb.length < 8 ∧ ¬ 4104 < pb.length) := ⟨ka, kb, kc, kd⟩
                    have HSa := Aside0.mk (show ∀ W, Below wx.heap.size wx W → (convert 50 9 (.slice A2 dr.length c2)).run Try.prog W = .ok (.string text) W ∧ Aside0 (Below wx.heap.size wx W) from fun W hW =>
                      ⟨(Kd.C_string (P := Try.prog) (A := A2) (c := c2) Try.underlying50 Try.underlying5 Try.underlying9 (DR2.out _ (Kd.C_below HS.out.cj hW))).trans (by rw [htext]), ⟨hW⟩⟩)
                    have MP := Aside0.mk (show M.posts.length ≤ 3000000 from by have h1 := HMI.out.2.2.2.2; have := HM.out; have := HJ0.out; have := HJ.out; have := of_decide_eq_true c1b; omega)
                    clear hpv0 hldo hi hm8 hi5 hsz5 tk1 tk2 tk3 dr1 dr2 dr3 hc2 htk hdr hver htext DR2 ka kb kc kd
                    go_upto_region 21 with (fail)
                    (try simp only [Act.put, List.setIfInBounds_toArray, List.set_cons_zero, List.set_cons_succ])
                    go_cut [14] (fun v14 wc1 => ∃ (g4 : Nat), v14 = .pointer (some ⟨g4, 0, none⟩) ∧ Aside0 (wc1.heap[g4]? = some (.cells #[.int .u64 pk, .int .u64 ver, .string text] 42 (0, 0))) ∧ Aside0 (wx.heap.size ≤ g4) ∧ Aside0 (Below wx.heap.size wx wc1))
                    case first =>
                      clear g0 g1 g2 g3 f0 f1 f2 f3 z0 z1 z2 z3 o0 o1 o2 o3 p0 p1
                      have hal : ∀ n i : Nat, ((wx.drewN n).alloc (.cells #[.int .u64 0, .int .u64 0, .string (⟨#[]⟩ : ByteArray)] 42)).cell? ⟨wx.heap.size, i, none⟩ = (#[.int .u64 0, .int .u64 0, .string (⟨#[]⟩ : ByteArray)] : Array Value)[i]? := fun n i => World.cell?_alloc_at _ _ _ _ rfl
                      have hfl : ∀ n i : Nat, ((wx.drewN n).alloc (.cells #[.int .u64 0, .int .u64 0, .string (⟨#[]⟩ : ByteArray)] 42)).frozen? ⟨wx.heap.size, i, none⟩ = false := fun n i => World.frozen?_alloc_at _ _ _ _ rfl
                      go_region_held3 (fun W => (convert 50 9 (.slice A2 dr.length c2)).run Try.prog W = .ok (.string text) W ∧ Aside0 (Below wx.heap.size wx W)) ((refine HSa.out _ ?_; repeat (first | (with_reducible first | exact Below.refl _ _ | apply below_alloc | apply pw_below_drewN | apply below_drew1 | refine below_set ?_ (Nat.le_refl _)) | exact Below.refl _ _))) (first | (go_at_call 35; (with_reducible refine (marginaliaref16_Number.calls 9 A' c' tk ver _ ?s1 ?s2 HNUM.out).mono ?_); (case s1 => exact TK2.out _ (Kd.C_below HS.out.cj (show Below wx.heap.size wx _ from by repeat (first | (with_reducible first | exact Below.refl _ _ | apply below_alloc | apply pw_below_drewN | apply below_drew1 | refine below_set ?_ (Nat.le_refl _)) | exact Below.refl _ _)))); (case s2 => exact TK3.out); rintro e w8 ⟨rfl, hd⟩; obtain ⟨n8, rfl⟩ := hd.out; clear hd))
                      all_goals
                        go_wp2
                        go_meet
                        case rel => exact ⟨wx.heap.size, rfl, ⟨by refine blk_put (cs := #[.int .u64 pk, .int .u64 ver, .string (⟨#[]⟩ : ByteArray)]) ?_ 2 _ rfl; refine blk_put (cs := #[.int .u64 pk, .int .u64 0, .string (⟨#[]⟩ : ByteArray)]) ?_ 1 _ rfl; refine blk_put (cs := #[.int .u64 0, .int .u64 0, .string (⟨#[]⟩ : ByteArray)]) ?_ 0 _ rfl; exact blk_new _ _⟩, ⟨Nat.le_refl _⟩, ⟨(by repeat (first | (with_reducible first | exact Below.refl _ _ | apply below_alloc | apply pw_below_drewN | apply below_drew1 | refine below_set ?_ (Nat.le_refl _)) | exact Below.refl _ _))⟩⟩
                    case rest =>
                      clear HSa TK2 TK3 tk1' dr1' HNUM
                      obtain ⟨g4, rfl, BK4, GE4, HB4⟩ := hcut
                      obtain ⟨AP, cP, eP⟩ := Kd.R_slice HS.out.rr.posts
                      rw [List.length_map] at eP
                      subst eP
                      have n_ := Aside0.mk (HS.out.below HB4.out)
                      clear HS HB4 g0 g1 g2 g3 f0 f1 f2 f3 z0 z1 z2 z3 o0 o1 o2 o3 p0 p1
                      have HS := n_
                      clear n_
                      have g0 : wc.cell? ⟨w.heap.size, 0, none⟩ = some (.slice none 0 0) := (blk_cell HS.out.c2 0).trans rfl
                      have g1 : wc.cell? ⟨w.heap.size, 1, none⟩ = some (.slice none 0 0) := (blk_cell HS.out.c2 1).trans rfl
                      have g2 : wc.cell? ⟨w.heap.size, 2, none⟩ = some (.int .u64 0) := (blk_cell HS.out.c2 2).trans rfl
                      have g3 : wc.cell? ⟨w.heap.size, 3, none⟩ = some (.int .u64 0) := (blk_cell HS.out.c2 3).trans rfl
                      have f0 : wc.frozen? ⟨w.heap.size, 0, none⟩ = false := blk_frozen HS.out.c2 0
                      have f1 : wc.frozen? ⟨w.heap.size, 1, none⟩ = false := blk_frozen HS.out.c2 1
                      have f2 : wc.frozen? ⟨w.heap.size, 2, none⟩ = false := blk_frozen HS.out.c2 2
                      have f3 : wc.frozen? ⟨w.heap.size, 3, none⟩ = false := blk_frozen HS.out.c2 3
                      have z0 : wc.cell? ⟨w.heap.size + 1, 0, none⟩ = some (.slice none 0 0) := (blk_cell HS.out.c4 0).trans rfl
                      have z1 : wc.cell? ⟨w.heap.size + 1, 1, none⟩ = some (.slice none 0 0) := (blk_cell HS.out.c4 1).trans rfl
                      have z2 : wc.cell? ⟨w.heap.size + 1, 2, none⟩ = some (.int .u64 0) := (blk_cell HS.out.c4 2).trans rfl
                      have z3 : wc.cell? ⟨w.heap.size + 1, 3, none⟩ = some (.int .u64 0) := (blk_cell HS.out.c4 3).trans rfl
                      have o0 : wc.cell? ⟨gO, 0, none⟩ = some (.slice AP M.posts.length cP) := (blk_cell HS.out.bo 0).trans rfl
                      have o1 : wc.cell? ⟨gO, 1, none⟩ = some vQ := (blk_cell HS.out.bo 1).trans rfl
                      have o2 : wc.cell? ⟨gO, 2, none⟩ = some (.int .u64 nx) := (blk_cell HS.out.bo 2).trans rfl
                      have o3 : wc.cell? ⟨gO, 3, none⟩ = some (.int .u64 cu) := (blk_cell HS.out.bo 3).trans rfl
                      have p0 : wc.frozen? ⟨gO, 0, none⟩ = false := blk_frozen HS.out.bo 0
                      have p1 : wc.frozen? ⟨gO, 1, none⟩ = false := blk_frozen HS.out.bo 1
                      have y0 : wc.cell? ⟨g4, 0, none⟩ = some (.int .u64 pk) := (blk_cell BK4.out 0).trans rfl
                      have y1 : wc.cell? ⟨g4, 1, none⟩ = some (.int .u64 ver) := (blk_cell BK4.out 1).trans rfl
                      have y2 : wc.cell? ⟨g4, 2, none⟩ = some (.string text) := (blk_cell BK4.out 2).trans rfl
                      by_cases va : ver < 1
                      · have v1 : decide (ver < 1) = true := decide_eq_true va
                        have HX0 := Aside0.mk (HT2.out HPV.out (by rw [HKX.out]; simp only [Bool.and_eq_false_iff, decide_eq_false_iff_not, Bool.or_eq_false_iff]; omega))
                        clear va
                        go_wp2
                        obtain ⟨hb, hm⟩ := set4 HS.out.c2 (.slice none 0 0) (.slice none 0 0) (.int .u64 0) (.int .u64 0)
                        refine bodyPost_ret (results_ct rfl _ _ w.heap.size 58 _ (0, 0) _ rfl hb Try.underlying58 rfl (by kernel_rfl)) rfl ?_
                        rw [HX0.out]
                        exact ⟨rfl, mv_below HS.out.hb hm (fun j hj => by omega) HS.out.hb.size⟩
                      · have v1 : decide (ver < 1) = false := decide_eq_false va
                        by_cases vb : nw < ver
                        · have v2 : decide (nw < ver) = true := decide_eq_true vb
                          have HX0 := Aside0.mk (HT2.out HPV.out (by rw [HKX.out]; simp only [Bool.and_eq_false_iff, decide_eq_false_iff_not, Bool.or_eq_false_iff]; omega))
                          clear va vb
                          go_wp2
                          obtain ⟨hb, hm⟩ := set4 HS.out.c2 (.slice none 0 0) (.slice none 0 0) (.int .u64 0) (.int .u64 0)
                          refine bodyPost_ret (results_ct rfl _ _ w.heap.size 58 _ (0, 0) _ rfl hb Try.underlying58 rfl (by kernel_rfl)) rfl ?_
                          rw [HX0.out]
                          exact ⟨rfl, mv_below HS.out.hb hm (fun j hj => by omega) HS.out.hb.size⟩
                        · have v2 : decide (nw < ver) = false := decide_eq_false vb
                          by_cases vc : pk ≤ cu
                          · have v3 : decide (pk ≤ cu) = true := decide_eq_true vc
                            by_cases vd : ver = nw
                            · have v4 : (ver != nw) = false := bne_eq_false_iff_eq.2 vd
                              have hlt : ldOk M pk pb nw = true := by
                                obtain ⟨r1, r2, r3, r4⟩ := KQ.out
                                rw [HKX.out]
                                simp only [Bool.and_eq_true, decide_eq_true_eq, Bool.or_eq_true]
                                omega
                              have HX3 := Aside0.mk (HT3.out HPV.out hlt)
                              have HNN := Aside0.mk (ldL_newest HMI.out.1 hlt)
                              have HUN := Aside0.mk (under_step HMI.out.2.1 (bs := pb) HPV.out)
                              clear va vb vc vd hlt
                              go_wp2_with (at_builtin; have hq1 : Kd.R k42 42 wc w.heap.size (fun k => some k = (Value.slice AP M.posts.length cP).ownBlock) (.slice AP M.posts.length cP) (M.posts.map lpS) := HS.out.rr.posts; have hq2 : Below w.heap.size w wc := HS.out.hb; have hq3 : w.heap.size ≤ wc.heap.size := HS.out.hb.size; have hq4 : (M.posts.map lpS).length ≤ 3000000 := (by rw [List.length_map]; exact MP.out); (refine posts_append (w0 := w) (W := wc) w.heap.size rfl (.tmp 142) (.tmp 144) rfl (.slice AP M.posts.length cP) (M.posts.map lpS) (lpS ⟨pk, ver, text⟩) rfl rfl hq1 hq2 hq3 hq4 ?_); clear hq1 hq2 hq3 hq4; intro v7 w7 hR7 hB7 hg7; obtain ⟨A7, c7, e7⟩ := Kd.R_slice hR7; subst e7; have HR7 := Aside0.mk hR7; have HB7 := Aside0.mk hB7; have HG7 := Aside0.mk hg7; have BO7 : Aside0 (w7.heap[gO]? = some (.cells #[.slice AP M.posts.length cP, vQ, .int .u64 nx, .int .u64 cu] 58)) := ⟨(hg7.block gO (blk_lt HS.out.bo) (Kd.R_ne HS.out.rr.posts HS.out.bo (by decide))).trans HS.out.bo⟩; clear hR7 hB7 hg7 g0 g1 g2 g3 f0 f1 f2 f3 z0 z1 z2 z3 o0 o1 o2 o3 p0 p1 y0 y1 y2; have o0 : w7.cell? ⟨gO, 0, none⟩ = some (.slice AP M.posts.length cP) := (blk_cell BO7.out 0).trans rfl; have p0 := blk_frozen BO7.out 0)
                              go_roundg (gk - 1)
                              case measure => have := HJ.out; have := of_decide_eq_true c1b; omega
                              case rel =>
                                have hJ := HJ.out
                                have hJ1 := of_decide_eq_true c1b
                                obtain ⟨m1, m2, m3, m4, m5⟩ := HMI.out
                                have hX3 := HX3.out
                                have hN := HNN.out
                                have hU := HUN.out
                                rw [HLV.out] at hX3 hN hU
                                obtain ⟨n1, n2, n3, n4, n5⟩ := HS.out.post HGO.out HR7.out HB7.out HG7.out
                                rw [show (M.posts.map lpS ++ [lpS ⟨pk, ver, text⟩]).length = M.posts.length + 1 from by simp] at n1 n2 n3 n4 n5
                                exact ⟨J + 1, ⟨M.posts ++ [⟨pk, ver, text⟩], M.pols, M.next, M.cur⟩, _, vQ, by first | rfl | rw [hjw], ⟨by omega⟩, ⟨hX3⟩, ⟨hN, by rw [HPK.out]; exact hU, m3, m4, by simp only [List.length_append, List.length_singleton]; omega⟩, ⟨n1⟩, ⟨n2⟩, ⟨n3⟩, ⟨n4⟩, ⟨n5⟩⟩
                            · have v4 : (ver != nw) = true := bne_iff_ne.2 vd
                              have HX0 := Aside0.mk (HT2.out HPV.out (by rw [HKX.out]; simp only [Bool.and_eq_false_iff, decide_eq_false_iff_not, Bool.or_eq_false_iff]; omega))
                              clear va vb vc vd
                              go_wp2
                              obtain ⟨hb, hm⟩ := set4 HS.out.c2 (.slice none 0 0) (.slice none 0 0) (.int .u64 0) (.int .u64 0)
                              refine bodyPost_ret (results_ct rfl _ _ w.heap.size 58 _ (0, 0) _ rfl hb Try.underlying58 rfl (by kernel_rfl)) rfl ?_
                              rw [HX0.out]
                              exact ⟨rfl, mv_below HS.out.hb hm (fun j hj => by omega) HS.out.hb.size⟩
                          · have v3 : decide (pk ≤ cu) = false := decide_eq_false vc
                            have vd := trivial
                            have hlt : ldOk M pk pb nw = true := by
                              obtain ⟨r1, r2, r3, r4⟩ := KQ.out
                              rw [HKX.out]
                              simp only [Bool.and_eq_true, decide_eq_true_eq, Bool.or_eq_true]
                              omega
                            have HX3 := Aside0.mk (HT3.out HPV.out hlt)
                            have HNN := Aside0.mk (ldL_newest HMI.out.1 hlt)
                            have HUN := Aside0.mk (under_step HMI.out.2.1 (bs := pb) HPV.out)
                            clear va vb vc vd hlt
                            go_wp2_with (at_builtin; have hq1 : Kd.R k42 42 wc w.heap.size (fun k => some k = (Value.slice AP M.posts.length cP).ownBlock) (.slice AP M.posts.length cP) (M.posts.map lpS) := HS.out.rr.posts; have hq2 : Below w.heap.size w wc := HS.out.hb; have hq3 : w.heap.size ≤ wc.heap.size := HS.out.hb.size; have hq4 : (M.posts.map lpS).length ≤ 3000000 := (by rw [List.length_map]; exact MP.out); (refine posts_append (w0 := w) (W := wc) w.heap.size rfl (.tmp 142) (.tmp 144) rfl (.slice AP M.posts.length cP) (M.posts.map lpS) (lpS ⟨pk, ver, text⟩) rfl rfl hq1 hq2 hq3 hq4 ?_); clear hq1 hq2 hq3 hq4; intro v7 w7 hR7 hB7 hg7; obtain ⟨A7, c7, e7⟩ := Kd.R_slice hR7; subst e7; have HR7 := Aside0.mk hR7; have HB7 := Aside0.mk hB7; have HG7 := Aside0.mk hg7; have BO7 : Aside0 (w7.heap[gO]? = some (.cells #[.slice AP M.posts.length cP, vQ, .int .u64 nx, .int .u64 cu] 58)) := ⟨(hg7.block gO (blk_lt HS.out.bo) (Kd.R_ne HS.out.rr.posts HS.out.bo (by decide))).trans HS.out.bo⟩; clear hR7 hB7 hg7 g0 g1 g2 g3 f0 f1 f2 f3 z0 z1 z2 z3 o0 o1 o2 o3 p0 p1 y0 y1 y2; have o0 : w7.cell? ⟨gO, 0, none⟩ = some (.slice AP M.posts.length cP) := (blk_cell BO7.out 0).trans rfl; have p0 := blk_frozen BO7.out 0)
                            go_roundg (gk - 1)
                            case measure => have := HJ.out; have := of_decide_eq_true c1b; omega
                            case rel =>
                              have hJ := HJ.out
                              have hJ1 := of_decide_eq_true c1b
                              obtain ⟨m1, m2, m3, m4, m5⟩ := HMI.out
                              have hX3 := HX3.out
                              have hN := HNN.out
                              have hU := HUN.out
                              rw [HLV.out] at hX3 hN hU
                              obtain ⟨n1, n2, n3, n4, n5⟩ := HS.out.post HGO.out HR7.out HB7.out HG7.out
                              rw [show (M.posts.map lpS ++ [lpS ⟨pk, ver, text⟩]).length = M.posts.length + 1 from by simp] at n1 n2 n3 n4 n5
                              exact ⟨J + 1, ⟨M.posts ++ [⟨pk, ver, text⟩], M.pols, M.next, M.cur⟩, _, vQ, by first | rfl | rw [hjw], ⟨by omega⟩, ⟨hX3⟩, ⟨hN, by rw [HPK.out]; exact hU, m3, m4, by simp only [List.length_append, List.length_singleton]; omega⟩, ⟨n1⟩, ⟨n2⟩, ⟨n3⟩, ⟨n4⟩, ⟨n5⟩⟩
        · have e2 : decide (pk ≤ pp) = true := decide_eq_true (by omega)
          have HX0 := Aside0.mk (st0 (by rw [hpv]; exact decide_eq_false ck))
          clear st0 ck hpv
          go_wp2
          obtain ⟨hb, hm⟩ := set4 HS.out.c2 (.slice none 0 0) (.slice none 0 0) (.int .u64 0) (.int .u64 0)
          refine bodyPost_ret (results_ct rfl _ _ w.heap.size 58 _ (0, 0) _ rfl hb Try.underlying58 rfl (by kernel_rfl)) rfl ?_
          rw [HX0.out]
          exact ⟨rfl, mv_below HS.out.hb hm (fun j hj => by omega) HS.out.hb.size⟩
    · have hJe : J0 ≤ J := by omega
      have c1b : decide (J < J0) = false := decide_eq_false c1
      have HXM := Aside0.mk (loop_fin (show ((ps.length - 1 : Nat) : Int) ≤ J by rw [← HJ0.out]; exact hJe) HLP.out).symm
      obtain ⟨AQ, cQ, eQ⟩ := Kd.R_slice HRR.out.pols
      subst eQ
      obtain ⟨AP, cP, eP⟩ := Kd.R_slice HRR.out.posts
      rw [List.length_map] at eP
      subst eP
      have HS := Aside0.mk (⟨HRR.out, BO.out, C2.out, C4.out, HB.out, Kd.C_nil _ _⟩ : RS w wr gO (.slice AP M.posts.length cP) (.slice AQ M.pols.length cQ) nx cu M none [])
      have HPL := Aside0.mk (show (M.pols.length : Int) ≤ 100 from by have := HNW.out; have h9 : (M.pols.length : Int) ≤ nw := HMI.out.1; omega)
      clear HLP c1 hJe HRR BO C2 C4 HB
      have g0 : wr.cell? ⟨w.heap.size, 0, none⟩ = some (.slice none 0 0) := (blk_cell HS.out.c2 0).trans rfl
      have g1 : wr.cell? ⟨w.heap.size, 1, none⟩ = some (.slice none 0 0) := (blk_cell HS.out.c2 1).trans rfl
      have g2 : wr.cell? ⟨w.heap.size, 2, none⟩ = some (.int .u64 0) := (blk_cell HS.out.c2 2).trans rfl
      have g3 : wr.cell? ⟨w.heap.size, 3, none⟩ = some (.int .u64 0) := (blk_cell HS.out.c2 3).trans rfl
      have f0 : wr.frozen? ⟨w.heap.size, 0, none⟩ = false := blk_frozen HS.out.c2 0
      have f1 : wr.frozen? ⟨w.heap.size, 1, none⟩ = false := blk_frozen HS.out.c2 1
      have f2 : wr.frozen? ⟨w.heap.size, 2, none⟩ = false := blk_frozen HS.out.c2 2
      have f3 : wr.frozen? ⟨w.heap.size, 3, none⟩ = false := blk_frozen HS.out.c2 3
      have z0 : wr.cell? ⟨w.heap.size + 1, 0, none⟩ = some (.slice none 0 0) := (blk_cell HS.out.c4 0).trans rfl
      have z1 : wr.cell? ⟨w.heap.size + 1, 1, none⟩ = some (.slice none 0 0) := (blk_cell HS.out.c4 1).trans rfl
      have z2 : wr.cell? ⟨w.heap.size + 1, 2, none⟩ = some (.int .u64 0) := (blk_cell HS.out.c4 2).trans rfl
      have z3 : wr.cell? ⟨w.heap.size + 1, 3, none⟩ = some (.int .u64 0) := (blk_cell HS.out.c4 3).trans rfl
      have o0 : wr.cell? ⟨gO, 0, none⟩ = some (.slice AP M.posts.length cP) := (blk_cell HS.out.bo 0).trans rfl
      have o1 : wr.cell? ⟨gO, 1, none⟩ = some (.slice AQ M.pols.length cQ) := (blk_cell HS.out.bo 1).trans rfl
      have o2 : wr.cell? ⟨gO, 2, none⟩ = some (.int .u64 nx) := (blk_cell HS.out.bo 2).trans rfl
      have o3 : wr.cell? ⟨gO, 3, none⟩ = some (.int .u64 cu) := (blk_cell HS.out.bo 3).trans rfl
      have p0 : wr.frozen? ⟨gO, 0, none⟩ = false := blk_frozen HS.out.bo 0
      have p1 : wr.frozen? ⟨gO, 1, none⟩ = false := blk_frozen HS.out.bo 1
      by_cases ce : (M.pols.length : Int) = nw
      · have e2 : ((M.pols.length : Int) != nw) = false := bne_eq_false_iff_eq.2 ce
        have HXF := Aside0.mk (show lfin nw X = some M from by rw [HXM.out]; exact if_pos ce)
        clear ce
        go_wp2_with (go_at_call 34; refine (RNewest_calls _ (.slice AP M.posts.length cP) AQ M.pols.length cQ nx cu (by have := HPL.out; omega)).mono ?_; rintro e w6 ⟨rfl, hb⟩; have n_ := Aside0.mk (HS.out.below hb); clear HS hb g0 g1 g2 g3 f0 f1 f2 f3 z0 z1 z2 z3 o0 o1 o2 o3 p0 p1; have HS := n_; clear n_; have g0 : w6.cell? ⟨w.heap.size, 0, none⟩ = some (.slice none 0 0) := (blk_cell HS.out.c2 0).trans rfl; have g1 : w6.cell? ⟨w.heap.size, 1, none⟩ = some (.slice none 0 0) := (blk_cell HS.out.c2 1).trans rfl; have g2 : w6.cell? ⟨w.heap.size, 2, none⟩ = some (.int .u64 0) := (blk_cell HS.out.c2 2).trans rfl; have g3 : w6.cell? ⟨w.heap.size, 3, none⟩ = some (.int .u64 0) := (blk_cell HS.out.c2 3).trans rfl; have f0 : w6.frozen? ⟨w.heap.size, 0, none⟩ = false := blk_frozen HS.out.c2 0; have f1 : w6.frozen? ⟨w.heap.size, 1, none⟩ = false := blk_frozen HS.out.c2 1; have f2 : w6.frozen? ⟨w.heap.size, 2, none⟩ = false := blk_frozen HS.out.c2 2; have f3 : w6.frozen? ⟨w.heap.size, 3, none⟩ = false := blk_frozen HS.out.c2 3; have z0 : w6.cell? ⟨w.heap.size + 1, 0, none⟩ = some (.slice none 0 0) := (blk_cell HS.out.c4 0).trans rfl; have z1 : w6.cell? ⟨w.heap.size + 1, 1, none⟩ = some (.slice none 0 0) := (blk_cell HS.out.c4 1).trans rfl; have z2 : w6.cell? ⟨w.heap.size + 1, 2, none⟩ = some (.int .u64 0) := (blk_cell HS.out.c4 2).trans rfl; have z3 : w6.cell? ⟨w.heap.size + 1, 3, none⟩ = some (.int .u64 0) := (blk_cell HS.out.c4 3).trans rfl; have o0 : w6.cell? ⟨gO, 0, none⟩ = some (.slice AP M.posts.length cP) := (blk_cell HS.out.bo 0).trans rfl; have o1 : w6.cell? ⟨gO, 1, none⟩ = some (.slice AQ M.pols.length cQ) := (blk_cell HS.out.bo 1).trans rfl; have o2 : w6.cell? ⟨gO, 2, none⟩ = some (.int .u64 nx) := (blk_cell HS.out.bo 2).trans rfl; have o3 : w6.cell? ⟨gO, 3, none⟩ = some (.int .u64 cu) := (blk_cell HS.out.bo 3).trans rfl; have p0 : w6.frozen? ⟨gO, 0, none⟩ = false := blk_frozen HS.out.bo 0; have p1 : w6.frozen? ⟨gO, 1, none⟩ = false := blk_frozen HS.out.bo 1)
        obtain ⟨hb, hm⟩ := set4 HS.out.c2 (.slice AP M.posts.length cP) (.slice AQ M.pols.length cQ) (.int .u64 nx) (.int .u64 cu)
        refine bodyPost_ret (results_ct rfl _ _ w.heap.size 58 _ (0, 0) _ rfl hb Try.underlying58 rfl (by kernel_rfl)) rfl ?_
        rw [HXF.out]
        exact ⟨.slice AP M.posts.length cP, .slice AQ M.pols.length cQ, by rw [HMI.out.2.2.1, HMI.out.2.2.2.1]; rfl, HS.out.rr.mv HS.out.c2 (by decide) (by decide) hm, mv_below HS.out.hb hm (fun j hj => by omega) HS.out.hb.size⟩
      · have e2 : ((M.pols.length : Int) != nw) = true := bne_iff_ne.2 ce
        have HXF := Aside0.mk (show lfin nw X = none from by rw [HXM.out]; exact if_neg ce)
        clear ce
        go_wp2_with (go_at_call 34; refine (RNewest_calls _ (.slice AP M.posts.length cP) AQ M.pols.length cQ nx cu (by have := HPL.out; omega)).mono ?_; rintro e w6 ⟨rfl, hb⟩; have n_ := Aside0.mk (HS.out.below hb); clear HS hb g0 g1 g2 g3 f0 f1 f2 f3 z0 z1 z2 z3 o0 o1 o2 o3 p0 p1; have HS := n_; clear n_; have g0 : w6.cell? ⟨w.heap.size, 0, none⟩ = some (.slice none 0 0) := (blk_cell HS.out.c2 0).trans rfl; have g1 : w6.cell? ⟨w.heap.size, 1, none⟩ = some (.slice none 0 0) := (blk_cell HS.out.c2 1).trans rfl; have g2 : w6.cell? ⟨w.heap.size, 2, none⟩ = some (.int .u64 0) := (blk_cell HS.out.c2 2).trans rfl; have g3 : w6.cell? ⟨w.heap.size, 3, none⟩ = some (.int .u64 0) := (blk_cell HS.out.c2 3).trans rfl; have f0 : w6.frozen? ⟨w.heap.size, 0, none⟩ = false := blk_frozen HS.out.c2 0; have f1 : w6.frozen? ⟨w.heap.size, 1, none⟩ = false := blk_frozen HS.out.c2 1; have f2 : w6.frozen? ⟨w.heap.size, 2, none⟩ = false := blk_frozen HS.out.c2 2; have f3 : w6.frozen? ⟨w.heap.size, 3, none⟩ = false := blk_frozen HS.out.c2 3; have z0 : w6.cell? ⟨w.heap.size + 1, 0, none⟩ = some (.slice none 0 0) := (blk_cell HS.out.c4 0).trans rfl; have z1 : w6.cell? ⟨w.heap.size + 1, 1, none⟩ = some (.slice none 0 0) := (blk_cell HS.out.c4 1).trans rfl; have z2 : w6.cell? ⟨w.heap.size + 1, 2, none⟩ = some (.int .u64 0) := (blk_cell HS.out.c4 2).trans rfl; have z3 : w6.cell? ⟨w.heap.size + 1, 3, none⟩ = some (.int .u64 0) := (blk_cell HS.out.c4 3).trans rfl; have o0 : w6.cell? ⟨gO, 0, none⟩ = some (.slice AP M.posts.length cP) := (blk_cell HS.out.bo 0).trans rfl; have o1 : w6.cell? ⟨gO, 1, none⟩ = some (.slice AQ M.pols.length cQ) := (blk_cell HS.out.bo 1).trans rfl; have o2 : w6.cell? ⟨gO, 2, none⟩ = some (.int .u64 nx) := (blk_cell HS.out.bo 2).trans rfl; have o3 : w6.cell? ⟨gO, 3, none⟩ = some (.int .u64 cu) := (blk_cell HS.out.bo 3).trans rfl; have p0 : w6.frozen? ⟨gO, 0, none⟩ = false := blk_frozen HS.out.bo 0; have p1 : w6.frozen? ⟨gO, 1, none⟩ = false := blk_frozen HS.out.bo 1)
        obtain ⟨hb, hm⟩ := set4 HS.out.c2 (.slice none 0 0) (.slice none 0 0) (.int .u64 0) (.int .u64 0)
        refine bodyPost_ret (results_ct rfl _ _ w.heap.size 58 _ (0, 0) _ rfl hb Try.underlying58 rfl (by kernel_rfl)) rfl ?_
        rw [HXF.out]
        exact ⟨rfl, mv_below HS.out.hb hm (fun j hj => by omega) HS.out.hb.size⟩
theorem RLoad_calls {w : World} {A0 : Option Addr} {c0 : Nat} {ps : List S52} (hC : Kd.C k52 w A0 ps.length ps) (hm : ps.length ≤ 3000000) (hk : ∀ x ∈ ps, 0 ≤ x.f0 ∧ x.f0 ≤ 18446744073709551615) (hb : ∀ x ∈ ps, Bytes x.f1) :
    Calls Try.prog 20 #[.slice A0 ps.length c0] w (RPost w (loadS ps)) := by
  by_cases hne : ps = []
  · subst hne
    exact RLoad_nil w A0 c0
  · have hl : 0 < ps.length := List.length_pos_iff.2 hne
    have es : rd_T52 ps (((ps.length - 1 : Nat) : Int)) = ps.getLast hne := by
      rw [rd_get (show ps.length - 1 < ps.length by omega), List.getLast_eq_getElem]
    have hs := List.getLast_mem hne
    have hlast := List.getLast?_eq_some_getLast hne
    generalize ps.getLast hne = s at es hs hlast
    have hby := hb s hs
    unfold loadS
    rw [hlast]
    simp only
    by_cases s1 : s.f0 = 18446744073709551615
    · by_cases s2 : s.f1.length = 24
      · rw [if_pos ⟨s1, s2⟩]
        by_cases hno : numsOk s
        · rw [if_pos hno]
          obtain ⟨n1, n2, n3, n4⟩ := hno
          have p1 : 0 ≤ nextOf s := Int.natCast_nonneg _
          have p2 : 0 ≤ newestOf s := Int.natCast_nonneg _
          have p3 : 0 ≤ curOf s := Int.natCast_nonneg _
          exact RLoad_nums hC hm hk hb hne es (fun w1 A c h1 h2 => by rw [s1]; exact head_h6 h1 h2 hby s2 rfl rfl rfl (show 1 ≤ nextOf s by omega) n2 n3 (decide_eq_true n4)) ⟨by omega, n2⟩ ⟨p2, n3⟩ ⟨p3, n4⟩ rfl
        · rw [if_neg hno]
          by_cases n1 : 1 ≤ nextOf s
          · by_cases n2 : nextOf s < 9223372036854775808
            · by_cases n3 : newestOf s ≤ 100
              · exact RLoad_bad hC hm hne es (fun w1 A c h1 h2 => by rw [s1]; exact head_h6 h1 h2 hby s2 rfl rfl rfl n1 n2 n3 (decide_eq_false (fun n4 => hno ⟨by omega, n2, n3, n4⟩)))
              · exact RLoad_bad hC hm hne es (fun w1 A c h1 h2 => by rw [s1]; exact head_h5 h1 h2 hby s2 rfl rfl rfl n1 n2 n3)
            · exact RLoad_bad hC hm hne es (fun w1 A c h1 h2 => by rw [s1]; exact head_h4 h1 h2 hby s2 rfl rfl rfl n1 n2)
          · exact RLoad_bad hC hm hne es (fun w1 A c h1 h2 => by rw [s1]; exact head_h3 h1 h2 hby s2 rfl rfl rfl n1)
      · rw [if_neg (fun h => s2 h.2)]
        exact RLoad_bad hC hm hne es (fun w1 A c h1 h2 => by rw [s1]; exact head_h2 h1 h2 hby s2)
    · rw [if_neg (fun h => s1 h.1)]
      exact RLoad_bad hC hm hne es (fun w1 A c h1 h2 => head_h1 h1 h2 hby s1)
theorem refPut_is {x : Int} (h : 0 ≤ x ∧ x ≤ 18446744073709551615) (l : List Int) (hl : l.length ≤ 1000) : marginaliaref16_Put.f 9 l x 8 = some (l ++ be8 x) := by
  have e : ∀ i : Nat, i < 8 → shr .u64 x ((8 * i : Nat) : Int) % 256 = ((x.toNat / 256 ^ i % 256 : Nat) : Int) := fun i hi => by
    unfold shr
    have h1 : min ((8 * i : Nat) : Int).toNat IntKind.u64.bits = 8 * i := by
      simp only [Int.toNat_natCast]
      exact Nat.min_eq_left (by simp [IntKind.bits]; omega)
    rw [h1]
    have h2 : (x : Int) = ((x.toNat : Nat) : Int) := by omega
    rw [h2]
    have h3 : (2 : Nat) ^ (8 * i) = 256 ^ i := by rw [Nat.pow_mul]
    have h4 : ((2 : Int) ^ (8 * i)) = ((256 ^ i : Nat) : Int) := by rw [← h3]; push_cast; rfl
    rw [h4, ← Int.natCast_ediv]
    simp only [Int.toNat_natCast]
    exact (Int.natCast_emod _ 256).symm
  have w8 : ∀ i : Nat, i ≤ 8 → wrap64 ((i : Int) - 1) = (i : Int) - 1 := fun i hi => by unfold wrap64; omega
  have u8 : ∀ i : Nat, i ≤ 8 → IntKind.u64.wrap (wrap64 (8 * (i : Int))) = ((8 * i : Nat) : Int) := fun i hi => by
    have h1 : wrap64 (8 * (i : Int)) = ((8 * i : Nat) : Int) := by unfold wrap64; omega
    rw [h1]
    simp [IntKind.wrap, IntKind.bits, IntKind.signed]
    omega
  have step : ∀ (i : Nat) (k : Nat) (acc : List Int), i < 8 → acc.length ≤ 1000 + 8 → marginaliaref16_Put.l0 (k + 1) acc x (i : Int) = marginaliaref16_Put.l0 k (acc ++ [((x.toNat / 256 ^ i % 256 : Nat) : Int)]) x ((i : Int) - 1) := fun i k acc hi hacc => by
    rw [marginaliaref16_Put.l0, if_pos (by omega), u8 i (by omega), if_pos (by omega), if_pos (by omega), e i hi, w8 i (by omega)]
  unfold marginaliaref16_Put.f be8
  rw [show wrap64 ((8 : Int) - 1) = ((7 : Nat) : Int) by unfold wrap64; omega, step 7 8 _ (by omega) (by omega), show (((7 : Nat) : Int) - 1) = ((6 : Nat) : Int) by decide, step 6 7 _ (by omega) (by simp; omega), show (((6 : Nat) : Int) - 1) = ((5 : Nat) : Int) by decide,
    step 5 6 _ (by omega) (by simp; omega), show (((5 : Nat) : Int) - 1) = ((4 : Nat) : Int) by decide, step 4 5 _ (by omega) (by simp; omega), show (((4 : Nat) : Int) - 1) = ((3 : Nat) : Int) by decide, step 3 4 _ (by omega) (by simp; omega), show (((3 : Nat) : Int) - 1) = ((2 : Nat) : Int) by decide,
    step 2 3 _ (by omega) (by simp; omega), show (((2 : Nat) : Int) - 1) = ((1 : Nat) : Int) by decide, step 1 2 _ (by omega) (by simp; omega), show (((1 : Nat) : Int) - 1) = ((0 : Nat) : Int) by decide, step 0 1 _ (by omega) (by simp; omega)]
  rw [marginaliaref16_Put.l0, if_neg (by decide)]
  simp [be, List.append_assoc]
theorem rd42_map {l : List LP} {j : Nat} (hj : j < l.length) : rd_T42 (l.map lpS) (j : Int) = lpS l[j] := by
  unfold rd_T42
  simp [hj]
theorem prow_none (W : World) : PRow (W.alloc (.cells #[] 52)) W.heap.size (.slice (some ⟨W.heap.size, 0, none⟩) 0 0) [] := by
  refine Kd.R_N ⟨fun k hk => ?_, [], ?_, Reps.none _ _⟩
  · have : W.heap.size = k := by simpa [Value.ownBlock] using hk
    exact Nat.le_of_eq this
  · exact World.ownsRow_lit (base := W.heap.size) (e := 52) (size := (kP W.heap.size).sz) W #[] 0 (Nat.le_refl _) (by decide) rfl
set_option maxHeartbeats 8000000 in
set_option maxRecDepth 100000 in
theorem RPairs_calls {w : World} {B : Nat} {vP vQ : Value} {L : LG} (h : RRows w B vP vQ L) (hok : L.Ok) (hn : L.posts.length ≤ 1000000) :
    Calls Try.prog 42 #[.agg #[vP, vQ, .int .u64 L.next, .int .u64 L.cur]] w fun e w' => ∃ u B1, e = .returned u ∧ w.heap.size ≤ B1 ∧ PRow w' B1 u L.pairsS ∧ Below w.heap.size w w' := by
  obtain ⟨AP, cP, eP, hcP, hCP⟩ := Kd.R_reads h.posts
  obtain ⟨AQ, cQ, eQ, hcQ, hCQ⟩ := Kd.R_reads h.pols
  rw [List.length_map] at eP hcP hCP
  subst eP; subst eQ
  have HN := Aside0.mk hn
  have HOK := Aside0.mk hok
  have HPO := Aside0.mk hok.pols
  have HCP := Aside0.mk hCP
  have HCQ := Aside0.mk hCQ
  clear h hok hn hcP hcQ hCP hCQ
  go_enter Try.func42, Try.ntmps42
  go_wp2_with ((with_reducible refine gate_dst (N := 1) rfl ?_); refine box_event ?hg (N := 1) ?hd (cs := #[.slice AP L.posts.length cP, .slice AQ L.pols.length cQ, .int .u64 L.next, .int .u64 L.cur]) (t := 58) ?hr ?_; (case hd => rfl); (case hg => rfl); (case hr => first | (go_simp; done) | (go_simp; rfl)); intro gb hg w5 hbox hb; have BK5 := Aside0.mk hbox; have HB5 := Aside0.mk hb; clear hg hbox hb)
  have HBw := Aside0.mk (below_alloc (Below.refl w5.heap.size w5) (.cells #[] 52))
  have HPw := Aside0.mk (prow_none w5)
  go_loopg [3, 4] L.posts.length (fun kq v3 v4 wr => ∃ J : Int, v4 = .int .i64 J ∧ Aside0 (0 ≤ J ∧ J + kq = L.posts.length) ∧ Aside0 (PRow wr w5.heap.size v3 ((L.posts.map postS).take J.toNat)) ∧ Aside0 (Below w5.heap.size w5 wr))
  case atStart => exact ⟨0, rfl, ⟨by omega⟩, HPw, HBw⟩
  case round =>
    clear HBw HPw
    obtain ⟨J, rfl, HJ, HP, HB⟩ := hrel
    have BKr := Aside0.mk (blk_below BK5.out HB.out)
    have b0 : wr.cell? ⟨gb, 0, none⟩ = some (.slice AP L.posts.length cP) := (blk_cell BKr.out 0).trans rfl
    have b1 : wr.cell? ⟨gb, 1, none⟩ = some (.slice AQ L.pols.length cQ) := (blk_cell BKr.out 1).trans rfl
    have b2 : wr.cell? ⟨gb, 2, none⟩ = some (.int .u64 L.next) := (blk_cell BKr.out 2).trans rfl
    have b3 : wr.cell? ⟨gb, 3, none⟩ = some (.int .u64 L.cur) := (blk_cell BKr.out 3).trans rfl
    by_cases c1 : J < L.posts.length
    · have c1b : decide (J < (L.posts.length : Int)) = true := decide_eq_true c1
      have q0 := eq_true HJ.out.1
      have q1 := eq_true c1
      have hj : J.toNat < L.posts.length := by have := HJ.out.1; omega
      obtain ⟨p, hp⟩ : ∃ p, L.posts[J.toNat] = p := ⟨_, rfl⟩
      have hpm : p ∈ L.posts := hp ▸ List.getElem_mem hj
      have hrd : rd_T42 (L.posts.map lpS) J = lpS p := by
        have := rd42_map hj
        rwa [Int.toNat_of_nonneg HJ.out.1, hp] at this
      have HPJ : Aside0 ((L.posts.map postS)[J.toNat]? = some (postS p)) := ⟨by rw [List.getElem?_map, List.getElem?_eq_getElem hj, hp]; rfl⟩
      obtain ⟨ad, ea, y0, y1, y2⟩ := at_T42 (Kd.C_below (Kd.C_below HCP.out HB5.out) HB.out) J HJ.out.1 c1
      cases ea
      rw [hrd] at y0 y1 y2
      replace y0 : wr.cell? (ad.add (J.toNat * 3)) = some (.int .u64 p.id) := y0
      replace y1 : wr.cell? ⟨(ad.add (J.toNat * 3)).block, (ad.add (J.toNat * 3)).off + 1, none⟩ = some (.int .u64 p.ver) := y1
      replace y2 : wr.cell? ⟨(ad.add (J.toNat * 3)).block, (ad.add (J.toNat * 3)).off + 2, none⟩ = some (.string p.text) := y2
      have hput := Aside0.mk (show marginaliaref16_Put.f 9 [] p.ver 8 = some (be8 p.ver) from refPut_is (HOK.out.vers p hpm) [] (by simp))
      have HTX := Aside0.mk (HOK.out.texts p hpm)
      obtain ⟨bs, hbs⟩ : ∃ bs, bs = be8 p.ver ++ bytesOf p.text := ⟨_, rfl⟩
      have HBS := Aside0.mk hbs
      have Y0 := Aside0.mk y0
      have Y2 := Aside0.mk y2
      have HSr := Aside0.mk HB.out.size
      clear hj hp hpm hrd hbs c1
      go_wp2_with (first
        | (go_at_call 48; (refine (marginaliaref16_Put.calls 9 (fun _ => False) (.slice none 0 0) [] p.ver 8 (be8 p.ver) wr _ (Below.refl _ _) (Kd.R_nil _ _ _ _ _) hput.out).mono ?_); rintro e w6 ⟨v6, rfl, hR6, hb6, hk6⟩; obtain ⟨A6, c6, e6⟩ := Kd.R_slice hR6; subst e6; have HR6 := Aside0.mk hR6; have HB6 : Aside0 (Below wr.heap.size wr w6) := ⟨hb6⟩; have BK6 : Aside0 (w6.heap[gb]? = some (.cells #[.slice (some ad) L.posts.length cP, .slice AQ L.pols.length cQ, .int .u64 L.next, .int .u64 L.cur] 58)) := ⟨blk_below BKr.out hb6⟩; clear hR6 hk6 y0 y1 y2 b0 b1 b2 b3; have b0 : w6.cell? ⟨gb, 0, none⟩ = some (.slice (some ad) L.posts.length cP) := (blk_cell BK6.out 0).trans rfl; have y0 : w6.cell? (ad.add (J.toNat * 3)) = some (.int .u64 p.id) := (hb6.cell (World.block_lt_of_cell? wr _ Y0.out)).trans Y0.out; have y2 : w6.cell? ⟨(ad.add (J.toNat * 3)).block, (ad.add (J.toNat * 3)).off + 2, none⟩ = some (.string p.text) := (hb6.cell (World.block_lt_of_cell? wr _ Y2.out)).trans Y2.out; clear hb6)
        | (at_builtin; have hq1 := Kd.own_of_R HR6.out; (refine print_append_str (P := Try.prog) (w0 := wr) (W := w6) wr.heap.size rfl (.tmp 23) (.tmp 29) 50 9 5 rfl Try.underlying50 Try.underlying9 info5 (.slice A6 (be8 p.ver).length c6) (be8 p.ver) p.text rfl rfl hq1 HB6.out HB6.out.size (by have := HTX.out; rw [be8_len]; omega) ?_); clear hq1; intro v7 w7 ho7 hB7 hg7; rw [← HBS.out] at ho7; have hR7 : (Kd.int .u8).R 5 w7 wr.heap.size (fun _ => True) v7 bs := Kd.R_of_own ho7 (fun _ _ => trivial); obtain ⟨A7, c7, e7⟩ := Kd.R_slice hR7; subst e7; have HR7 := Aside0.mk hR7; have HB7 : Aside0 (Below wr.heap.size wr w7) := ⟨hB7⟩; have BK7 : Aside0 (w7.heap[gb]? = some (.cells #[.slice (some ad) L.posts.length cP, .slice AQ L.pols.length cQ, .int .u64 L.next, .int .u64 L.cur] 58)) := ⟨blk_below BKr.out hB7⟩; clear ho7 hg7 hR7 y0 y2 b0; have b0 : w7.cell? ⟨gb, 0, none⟩ = some (.slice (some ad) L.posts.length cP) := (blk_cell BK7.out 0).trans rfl; have y0 : w7.cell? (ad.add (J.toNat * 3)) = some (.int .u64 p.id) := (hB7.cell (World.block_lt_of_cell? wr _ Y0.out)).trans Y0.out; clear hB7)
        | (at_builtin; have hq1 : Bts w7 (fun k => wr.heap.size ≤ k) w5.heap.size (.slice A7 bs.length c7) bs := (Bts.own HR7.out).base HSr.out; have hq2 : PRow w7 w5.heap.size u3 ((L.posts.map postS).take J.toNat) := HP.out.below HB7.out; have hq3 : Below w5.heap.size w5 w7 := HB.out.trans (HB7.out.mono HSr.out); have hq4 : w5.heap.size ≤ w7.heap.size := Nat.le_trans HSr.out HB7.out.size; have hq5 : ((L.posts.map postS).take J.toNat).length ≤ 2000000 := (by have := HN.out; rw [List.length_take, List.length_map]; omega); (refine prow_append (w0 := w5) (W := w7) w5.heap.size rfl (.tmp 31) (.tmp 40) rfl u3 ((L.posts.map postS).take J.toNat) p.id (.slice A7 bs.length c7) bs rfl rfl wr.heap.size hq1 (fun k hk => Kd.N_lt HP.out k hk) HSr.out hq2 hq3 hq4 hq5 ?_); clear hq1 hq2 hq3 hq4 hq5; intro v9 w9 hP9 hB9; have HP9 := Aside0.mk hP9; have HB9 := Aside0.mk hB9; clear hP9 hB9 y0 b0; go_frame))
      go_roundg (gk - 1)
      case measure => have := HJ.out; have := of_decide_eq_true c1b; omega
      case rel =>
        have hJ := HJ.out
        have hJ2 := of_decide_eq_true c1b
        refine ⟨J + 1, by first | rfl | rw [show wrap64 (J + 1) = J + 1 from (by have := HN.out; unfold wrap64; omega)], ⟨by omega⟩, ⟨?_⟩, HB9⟩
        have e1 : (J + 1).toNat = J.toNat + 1 := by omega
        rw [e1, List.take_add_one, HPJ.out]
        have e2 : (⟨p.id, bs⟩ : S52) = postS p := by rw [HBS.out]; rfl
        rw [e2] at HP9
        exact HP9.out
    · have c1b : decide (J < (L.posts.length : Int)) = false := decide_eq_false c1
      have hJ1 : J.toNat = L.posts.length := by have := HJ.out; omega
      rw [hJ1, List.take_of_length_le (by simp)] at HP
      clear hJ1 c1
      go_wp2
      go_loopg [3, 6] L.pols.length (fun kq v3 v6 wr => ∃ J : Int, v6 = .int .i64 J ∧ Aside0 (0 ≤ J ∧ J + kq = L.pols.length) ∧ Aside0 (PRow wr w5.heap.size v3 (L.posts.map postS ++ (polsS L.pols).take J.toNat)) ∧ Aside0 (Below w5.heap.size w5 wr))
      case atStart => exact ⟨0, rfl, ⟨by omega⟩, ⟨by simpa using HP.out⟩, HB⟩
      case round =>
        clear HP HB BKr b0 b1 b2 b3 HJ c1b
        obtain ⟨J, rfl, HJ, HP, HB⟩ := hrel
        have BKr := Aside0.mk (blk_below BK5.out HB.out)
        have b0 : wr.cell? ⟨gb, 0, none⟩ = some (.slice AP L.posts.length cP) := (blk_cell BKr.out 0).trans rfl
        have b1 : wr.cell? ⟨gb, 1, none⟩ = some (.slice AQ L.pols.length cQ) := (blk_cell BKr.out 1).trans rfl
        have b2 : wr.cell? ⟨gb, 2, none⟩ = some (.int .u64 L.next) := (blk_cell BKr.out 2).trans rfl
        have b3 : wr.cell? ⟨gb, 3, none⟩ = some (.int .u64 L.cur) := (blk_cell BKr.out 3).trans rfl
        by_cases c1 : J < L.pols.length
        · have c1b : decide (J < (L.pols.length : Int)) = true := decide_eq_true c1
          have q0 := eq_true HJ.out.1
          have q1 := eq_true c1
          obtain ⟨ad, ea, hx⟩ := Kd.at_string (Kd.C_below (Kd.C_below HCQ.out HB5.out) HB.out) J HJ.out.1 c1
          cases ea
          obtain ⟨s, hs⟩ : ∃ s, s = rdOf ByteArray.empty L.pols J := ⟨_, rfl⟩
          have hj : J.toNat < L.pols.length := by have := HJ.out.1; omega
          have hsm : s ∈ L.pols := by rw [hs]; unfold rdOf; rw [List.getD_eq_getElem?_getD, List.getElem?_eq_getElem hj]; exact List.getElem_mem hj
          have HSZ := Aside0.mk (HOK.out.ptexts s hsm)
          have HPJ : Aside0 ((polsS L.pols)[J.toNat]? = some (polS J.toNat s)) := ⟨by
            unfold polsS
            rw [List.getElem?_map, List.getElem?_range hj]
            simp only [Option.map_some]
            rw [hs, show ((J.toNat : Nat) : Int) = J by have := HJ.out.1; omega]⟩
          rw [← hs] at hx
          have hcv := fun W => print_bytes (P := Try.prog) 9 50 5 Try.underlying9 Try.underlying50 Try.underlying5 s W
          have hJb := HJ.out
          obtain ⟨K1, hK1⟩ : ∃ K1, K1 = 9223372036854775808 + J := ⟨_, rfl⟩
          obtain ⟨K2, hK2⟩ : ∃ K2, K2 = K1 + 1 := ⟨_, rfl⟩
          have hw1 : IntKind.u64.wrap J = J := by have := HPO.out; simp [IntKind.wrap, IntKind.bits, IntKind.signed]; omega
          have hw2 : IntKind.u64.wrap (9223372036854775808 + J) = K1 := by have := HPO.out; rw [hK1]; simp [IntKind.wrap, IntKind.bits, IntKind.signed]; omega
          have hw3 : IntKind.u64.wrap (K1 + 1) = K2 := by have := HPO.out; rw [hK2, hK1]; simp [IntKind.wrap, IntKind.bits, IntKind.signed]; omega
          have HK2 := Aside0.mk (show K2 = 9223372036854775808 + J + 1 by rw [hK2, hK1])
          have HBr := Aside0.mk (bytes_below (Below.refl wr.heap.size wr) (Nat.le_refl _) 5 s)
          clear hs hsm hj hJb hK1 hK2 c1
          go_wp2_with (at_builtin; (refine prow_append (w0 := w5) w5.heap.size rfl _ _ rfl u3 (L.posts.map postS ++ (polsS L.pols).take J.toNat) K2 (.slice (some ⟨wr.heap.size, 0, none⟩) s.size (grownCap wr s.size 0 5)) (bytesOf s) rfl rfl wr.heap.size ((Bts.text wr s HSZ.out (HB.out.size)).mono (fun k hk => Nat.le_of_eq hk.symm)) (fun k hk => Kd.N_lt HP.out k hk) HB.out.size (HP.out.below HBr.out) (HB.out.trans (HBr.out.mono HB.out.size)) (Nat.le_trans HB.out.size HBr.out.size) (by have := HN.out; have := HPO.out; simp [polsS]; omega) ?_); intro v9 w9 hP9 hB9; have HP9 := Aside0.mk hP9; have HB9 := Aside0.mk hB9; clear hP9 hB9; go_frame)
          go_roundg (gk - 1)
          case measure => have := HJ.out; have := of_decide_eq_true c1b; omega
          case rel =>
            have hJ := HJ.out
            have hJ2 := of_decide_eq_true c1b
            refine ⟨J + 1, by first | rfl | rw [show wrap64 (J + 1) = J + 1 from (by have := HPO.out; unfold wrap64; omega)], ⟨by omega⟩, ⟨?_⟩, HB9⟩
            have e1 : (J + 1).toNat = J.toNat + 1 := by omega
            rw [e1, List.take_add_one, HPJ.out]
            have e2 : (⟨K2, bytesOf s⟩ : S52) = polS J.toNat s := by
              unfold polS
              rw [HK2.out]
              congr 3
              omega
            rw [e2, List.append_assoc] at HP9
            exact HP9.out
        · have c1b : decide (J < (L.pols.length : Int)) = false := decide_eq_false c1
          have hJ1 : J.toNat = L.pols.length := by have := HJ.out; omega
          rw [hJ1, List.take_of_length_le (by simp [polsS])] at HP
          clear hJ1 c1
          have HSF := Aside0.mk HB.out.size
          obtain ⟨bs1, hb1⟩ : ∃ bs1, bs1 = be8 L.next := ⟨_, rfl⟩
          obtain ⟨bs2, hb2⟩ : ∃ bs2, bs2 = bs1 ++ be8 L.newest := ⟨_, rfl⟩
          obtain ⟨bs3, hb3⟩ : ∃ bs3, bs3 = bs2 ++ be8 L.cur := ⟨_, rfl⟩
          have hnw : 0 ≤ L.newest ∧ L.newest ≤ 18446744073709551615 := by have := HPO.out; unfold LG.newest; omega
          have P1 : Aside0 (marginaliaref16_Put.f 9 [] L.next 8 = some bs1) := ⟨by rw [hb1]; exact refPut_is HOK.out.next [] (by simp)⟩
          have P2 : Aside0 (marginaliaref16_Put.f 9 bs1 (L.pols.length : Int) 8 = some bs2) := ⟨by rw [hb2]; exact refPut_is hnw bs1 (by rw [hb1, be8_len]; omega)⟩
          have P3 : Aside0 (marginaliaref16_Put.f 9 bs2 L.cur 8 = some bs3) := ⟨by rw [hb3]; exact refPut_is HOK.out.cur bs2 (by rw [hb2, hb1, List.length_append, be8_len, be8_len]; omega)⟩
          have HBS : Aside0 (bs3 = L.status) := ⟨by rw [hb3, hb2, hb1]; rfl⟩
          clear hb1 hb2 hb3 hnw
          go_wp2_with (first
            | (go_at_call 48; (with_reducible refine (marginaliaref16_Put.calls 9 (fun _ => True) (.slice none 0 0) [] L.next 8 bs1 wr _ ?s1 ?s2 P1.out).mono ?_); (case s1 => exact (Below.refl _ _)); (case s2 => exact (Kd.R_nil _ _ _ _ _)); rintro e w11 ⟨v5, rfl, hR5, hb5, hk5⟩; have HR1 : Aside0 ((Kd.int .u8).R 5 w11 wr.heap.size (fun _ => True) v5 bs1) := ⟨Kd.R_mono hR5 (fun _ _ => trivial)⟩; obtain ⟨AR1, cR1, e5⟩ := Kd.R_slice HR1.out; subst e5; have HB11 : Aside0 (Below wr.heap.size wr w11) := ⟨hb5⟩; have BK11 : Aside0 (w11.heap[gb]? = some (.cells #[.slice AP L.posts.length cP, .slice AQ L.pols.length cQ, .int .u64 L.next, .int .u64 L.cur] 58)) := ⟨blk_below BKr.out hb5⟩; clear hR5 hk5 b0 b1 b2 b3; have b0 : w11.cell? ⟨gb, 0, none⟩ = some (.slice AP L.posts.length cP) := (blk_cell BK11.out 0).trans rfl; have b1 : w11.cell? ⟨gb, 1, none⟩ = some (.slice AQ L.pols.length cQ) := (blk_cell BK11.out 1).trans rfl; have b2 : w11.cell? ⟨gb, 2, none⟩ = some (.int .u64 L.next) := (blk_cell BK11.out 2).trans rfl; have b3 : w11.cell? ⟨gb, 3, none⟩ = some (.int .u64 L.cur) := (blk_cell BK11.out 3).trans rfl; clear hb5)
            | (go_at_call 34; (refine (RNewest_calls _ _ AQ L.pols.length cQ L.next L.cur (by have := HPO.out; omega)).mono ?_); rintro e w14 ⟨rfl, hb⟩; have HB14 : Aside0 (Below wr.heap.size wr w14) := ⟨HB11.out.trans (hb.mono HB11.out.size)⟩; have HR1_ : Aside0 ((Kd.int .u8).R 5 w14 wr.heap.size (fun _ => True) (.slice AR1 bs1.length cR1) bs1) := ⟨Kd.R_below HR1.out hb⟩; have BK14 : Aside0 (w14.heap[gb]? = some (.cells #[.slice AP L.posts.length cP, .slice AQ L.pols.length cQ, .int .u64 L.next, .int .u64 L.cur] 58)) := ⟨blk_below BK11.out hb⟩; clear hb b0 b1 b2 b3; have b0 : w14.cell? ⟨gb, 0, none⟩ = some (.slice AP L.posts.length cP) := (blk_cell BK14.out 0).trans rfl; have b1 : w14.cell? ⟨gb, 1, none⟩ = some (.slice AQ L.pols.length cQ) := (blk_cell BK14.out 1).trans rfl; have b2 : w14.cell? ⟨gb, 2, none⟩ = some (.int .u64 L.next) := (blk_cell BK14.out 2).trans rfl; have b3 : w14.cell? ⟨gb, 3, none⟩ = some (.int .u64 L.cur) := (blk_cell BK14.out 3).trans rfl)
            | (go_at_call 48; (with_reducible refine (marginaliaref16_Put.calls 9 (fun _ => True) (.slice AR1 bs1.length cR1) bs1 (L.pols.length : Int) 8 bs2 wr _ ?s1 ?s2 P2.out).mono ?_); (case s1 => exact HB14.out); (case s2 => exact HR1_.out); rintro e w12 ⟨v5, rfl, hR5, hb5, hk5⟩; have HR2 : Aside0 ((Kd.int .u8).R 5 w12 wr.heap.size (fun _ => True) v5 bs2) := ⟨Kd.R_mono hR5 (fun _ _ => trivial)⟩; obtain ⟨AR2, cR2, e5⟩ := Kd.R_slice HR2.out; subst e5; have HB12 : Aside0 (Below wr.heap.size wr w12) := ⟨hb5⟩; have BK12 : Aside0 (w12.heap[gb]? = some (.cells #[.slice AP L.posts.length cP, .slice AQ L.pols.length cQ, .int .u64 L.next, .int .u64 L.cur] 58)) := ⟨blk_below BKr.out hb5⟩; clear hR5 hk5 b0 b1 b2 b3; have b0 : w12.cell? ⟨gb, 0, none⟩ = some (.slice AP L.posts.length cP) := (blk_cell BK12.out 0).trans rfl; have b1 : w12.cell? ⟨gb, 1, none⟩ = some (.slice AQ L.pols.length cQ) := (blk_cell BK12.out 1).trans rfl; have b2 : w12.cell? ⟨gb, 2, none⟩ = some (.int .u64 L.next) := (blk_cell BK12.out 2).trans rfl; have b3 : w12.cell? ⟨gb, 3, none⟩ = some (.int .u64 L.cur) := (blk_cell BK12.out 3).trans rfl; clear hb5)
            | (go_at_call 48; (with_reducible refine (marginaliaref16_Put.calls 9 (fun _ => True) (.slice AR2 bs2.length cR2) bs2 L.cur 8 bs3 wr _ ?s1 ?s2 P3.out).mono ?_); (case s1 => exact HB12.out); (case s2 => exact HR2.out); rintro e w13 ⟨v5, rfl, hR5, hb5, hk5⟩; have HR3 : Aside0 ((Kd.int .u8).R 5 w13 wr.heap.size (fun _ => True) v5 bs3) := ⟨Kd.R_mono hR5 (fun _ _ => trivial)⟩; obtain ⟨AR3, cR3, e5⟩ := Kd.R_slice HR3.out; subst e5; have HB13 : Aside0 (Below wr.heap.size wr w13) := ⟨hb5⟩; have BK13 : Aside0 (w13.heap[gb]? = some (.cells #[.slice AP L.posts.length cP, .slice AQ L.pols.length cQ, .int .u64 L.next, .int .u64 L.cur] 58)) := ⟨blk_below BKr.out hb5⟩; clear hR5 hk5 b0 b1 b2 b3; have b0 : w13.cell? ⟨gb, 0, none⟩ = some (.slice AP L.posts.length cP) := (blk_cell BK13.out 0).trans rfl; have b1 : w13.cell? ⟨gb, 1, none⟩ = some (.slice AQ L.pols.length cQ) := (blk_cell BK13.out 1).trans rfl; have b2 : w13.cell? ⟨gb, 2, none⟩ = some (.int .u64 L.next) := (blk_cell BK13.out 2).trans rfl; have b3 : w13.cell? ⟨gb, 3, none⟩ = some (.int .u64 L.cur) := (blk_cell BK13.out 3).trans rfl; clear hb5)
            | (at_builtin; have hq1 : Bts w13 (fun k => wr.heap.size ≤ k) w5.heap.size (.slice AR3 bs3.length cR3) bs3 := (Bts.own HR3.out).base HSF.out; have hq2 : PRow w13 w5.heap.size u3 (L.posts.map postS ++ polsS L.pols) := HP.out.below HB13.out; have hq3 : Below w5.heap.size w5 w13 := HB.out.trans (HB13.out.mono HSF.out); have hq4 : w5.heap.size ≤ w13.heap.size := Nat.le_trans HSF.out HB13.out.size; have hq5 : (L.posts.map postS ++ polsS L.pols).length ≤ 2000000 := (by have := HN.out; have := HPO.out; simp [polsS]; omega); (refine prow_append (w0 := w5) (W := w13) w5.heap.size rfl (.tmp 74) (.tmp 77) rfl u3 (L.posts.map postS ++ polsS L.pols) 18446744073709551615 (.slice AR3 bs3.length cR3) bs3 rfl rfl wr.heap.size hq1 (fun k hk => Kd.N_lt HP.out k hk) HSF.out hq2 hq3 hq4 hq5 ?_); clear hq1 hq2 hq3 hq4 hq5; intro v9 w9 hP9 hB9; have HP9 := Aside0.mk hP9; have HB9 := Aside0.mk hB9; clear hP9 hB9; go_frame))
          go_ret
          rw [HBS.out] at HP9
          exact ⟨_, w5.heap.size, rfl, HB5.out.size, HP9.out, HB5.out.trans (HB9.out.mono HB5.out.size)⟩
end Go.Proofs.Ytjfkenjmjoncbaa.Lg

end

section
namespace Go.Proofs.Ytjfkenjmjoncbaa.Lg
open Go Go.Maps Go.WideShapes Go.RowKit Go.Proofs.Ytjfkenjmjoncbaa.PAll Go.Proofs.YtjfkenjmjoncbaaW.PrintWords Go.Proofs.YtjfkenjmjoncbaaW.PrintLast Go.Proofs.YtjfkenjmjoncbaaW.PrintMore
attribute [local go_sem] min2_int min_two
set_option linter.unusedVariables false
set_option linter.unusedSimpArgs false

theorem drawn0_below {w w' : World} (h : Drawn0 w w') : Below w.heap.size w w' := by
  obtain ⟨n, rfl⟩ := h.out
  exact pw_below_drewN (Below.refl _ _) n
def below (l : List Int) (t : Int) : Nat := (l.filter (fun x => decide (x < t))).length
theorem below_le (l : List Int) (t : Int) : below l t ≤ l.length := List.length_filter_le _ _
theorem below_at {l : List Int} (h : l.Pairwise (· < ·)) (t : Int) : ∀ (i : Nat) (hi : i < l.length), l[i] < t ↔ i < below l t := by
  induction l with
  | nil => intro i hi; simp at hi
  | cons a l ih =>
    obtain ⟨h1, h2⟩ := List.pairwise_cons.1 h
    intro i hi
    by_cases c : a < t
    · have e : below (a :: l) t = below l t + 1 := by unfold below; rw [List.filter_cons_of_pos (by simpa using c)]; rfl
      rw [e]
      cases i with
      | zero => simp [c]
      | succ i =>
        have := ih h2 i (by simpa using hi)
        simp only [List.getElem_cons_succ]
        omega
    · have e : below (a :: l) t = 0 := by
        unfold below
        rw [List.length_eq_zero_iff, List.filter_eq_nil_iff]
        intro x hx
        rcases List.mem_cons.1 hx with rfl | hx
        · simpa using c
        · have := h1 x hx
          simp
          omega
      rw [e]
      have hle : ¬ (a :: l)[i] < t := by
        cases i with
        | zero => simpa using c
        | succ i =>
          have := h1 _ (List.getElem_mem (by simpa using hi : i < l.length))
          simp only [List.getElem_cons_succ]
          omega
      omega
theorem less_is (a b : Int) : cmp_Less_uint64.f a b = some (decide (a < b)) := by
  unfold cmp_Less_uint64.f cmp_isNaN_uint64.f
  simp
theorem search_is {l : List Int} (h : l.Pairwise (· < ·)) (t : Int) (hl : l.length ≤ 1000000) : ∀ (d i j k : Nat), j - i ≤ d → d < k → i ≤ below l t → below l t ≤ j → j ≤ l.length → ∃ b, slices_BinarySearch_uint64_uint64.l0 k l t (l.length : Int) (i : Int) (j : Int) = some ((below l t : Int), b) := by
  intro d
  induction d with
  | zero =>
    intro i j k hd hk h1 h2 h3
    obtain ⟨k', rfl⟩ : ∃ k', k = k' + 1 := ⟨k - 1, by omega⟩
    have hi : i = below l t := by omega
    rw [slices_BinarySearch_uint64_uint64.l0, if_neg (by omega), hi]
    by_cases c1 : (below l t : Int) < (l.length : Int)
    · rw [if_pos c1, if_pos (by omega), if_pos c1]
      by_cases c2 : rd l (below l t : Int) = t
      · rw [if_pos c2]; exact ⟨_, rfl⟩
      · rw [if_neg c2]
        unfold slices_isNaN_uint64.f
        simp
    · rw [if_neg c1]; exact ⟨_, rfl⟩
  | succ d ih =>
    intro i j k hd hk h1 h2 h3
    obtain ⟨k', rfl⟩ : ∃ k', k = k' + 1 := ⟨k - 1, by omega⟩
    by_cases c : i < j
    · have em : wrap64 ((IntKind.u64.wrap (wrap64 ((i : Int) + (j : Int)))) / 2) = (((i + j) / 2 : Nat) : Int) := by
        rw [show wrap64 ((i : Int) + (j : Int)) = (i : Int) + (j : Int) by unfold wrap64; omega, show IntKind.u64.wrap ((i : Int) + (j : Int)) = (i : Int) + (j : Int) by simp [IntKind.wrap, IntKind.bits, IntKind.signed]; omega]
        unfold wrap64
        omega
      have hm : (i + j) / 2 < l.length := by omega
      have erd : rd l (((i + j) / 2 : Nat) : Int) = l[(i + j) / 2] := by
        unfold rd
        rw [Int.toNat_natCast, List.getD_eq_getElem?_getD, List.getElem?_eq_getElem hm]
        rfl
      rw [slices_BinarySearch_uint64_uint64.l0, if_pos (by omega), em, if_pos (by omega), if_pos (by omega), erd, less_is, Option.bind_some]
      have hb := below_at h t _ hm
      by_cases c2 : l[(i + j) / 2] < t
      · rw [if_pos (by simpa using c2), show wrap64 ((((i + j) / 2 : Nat) : Int) + 1) = (((i + j) / 2 + 1 : Nat) : Int) by unfold wrap64; omega]
        have := hb.1 c2
        exact ih _ _ _ (by omega) (by omega) (by omega) h2 h3
      · rw [if_neg (by simpa using c2)]
        have := fun q => c2 (hb.2 q)
        exact ih _ _ _ (by omega) (by omega) h1 (by omega) (by omega)
    · exact ih i j (k' + 1) (by omega) (by omega) h1 h2 h3
theorem list_cut (ids : List Int) (at_ : Nat) (hbl : at_ ≤ ids.length) (q : Int) (h0 : 0 ≤ q) (h1 : q ≤ (ids.drop at_).length) (A : Option Addr) (c : Nat) (hc : ids.length ≤ c) :
    ∃ (A1 : Option Addr) (c1 : Nat), (∀ W : World, (Instr.slice 39 (.slice A ids.length c) (some (.int .i64 (at_ : Int))) none none).run Try.prog W = .ok (.slice A1 (ids.drop at_).length c1) W) ∧
      (∀ W : World, (Instr.slice 39 (.slice A1 (ids.drop at_).length c1) none (some (.int .i64 q)) none).run Try.prog W = .ok (.slice A1 ((ids.drop at_).take q.toNat).length c1) W) ∧
      ((ids.drop at_).take q.toNat).length ≤ c1 ∧ ∀ W, (Kd.int .u64).C W A ids.length ids → (Kd.int .u64).C W A1 ((ids.drop at_).take q.toNat).length ((ids.drop at_).take q.toNat) := by
  obtain ⟨i0, hi, _, hsz, _⟩ := info_parts info24
  have hyl : (ids.drop at_).length = ids.length - at_ := List.length_drop
  obtain ⟨A1, hcut, hA1⟩ := print_cut_of (P := Try.prog) (Value.int .u64) (0 : Int) 39 24 .i64 Try.underlying39 hi hsz A ids.length c at_ hbl
  obtain ⟨htk, hT, hTl⟩ := print_take_of (P := Try.prog) (Value.int .u64) (0 : Int) 39 24 .i64 Try.underlying39 hi hsz A1 (c - at_) (ids.drop at_) q h0 h1 (by omega)
  refine ⟨A1, c - at_, fun W => by rw [hyl]; exact hcut W, htk, hTl, fun W hC => Kd.C_of_reads (h1 := fun _ => rfl) (hT W ?_)⟩
  have := hA1 W ids hc (Kd.reads_of_C hC)
  rw [← hyl] at this
  exact this
def LG.listS (L : LG) (from_ n : Int) : List Int := ((L.posts.map LP.id).drop (below (L.posts.map LP.id) from_)).take n.toNat
set_option maxHeartbeats 4000000 in
set_option maxRecDepth 100000 in
theorem List_calls {w : World} {B g b m : Nat} {v : Value} {L : LG} (h : Led w B g b m v L) (hm : m ≤ 1000000) (f n : Int) (hn : (Lit.int .i64 n).wf = true) :
    Calls Try.prog 14 #[.pointer (some ⟨g, 0, none⟩), .int .u64 f, .int .i64 n] w fun e w' => ∃ u, e = .returned u ∧ Kd.V (Kd.int .u64) 24 w' 0 (fun k => w.heap.size ≤ k ∧ k < w'.heap.size) u (L.listS f n) ∧ Below w.heap.size w w' := by
  have HI := Aside0.mk (ids_calls h hm)
  have HR := h.ok.rise.ids
  have hpl : L.posts.length ≤ 1000000 := Nat.le_trans h.len hm
  have hlen : (L.posts.map LP.id).length = L.posts.length := by simp
  obtain ⟨bb, hs⟩ := search_is HR f (by rw [hlen]; exact hpl) (L.posts.map LP.id).length 0 (L.posts.map LP.id).length ((L.posts.map LP.id).length + 1) (by omega) (by omega) (Nat.zero_le _) (below_le _ _) (Nat.le_refl _)
  have HS : Aside0 (slices_BinarySearch_uint64_uint64.f ((L.posts.map LP.id).length + 1) (L.posts.map LP.id) f = some ((below (L.posts.map LP.id) f : Int), bb)) := ⟨hs⟩
  have hbl := below_le (L.posts.map LP.id) f
  clear h hs HR
  by_cases c1 : n < 1
  · have c1b : decide (n < 1) = true := decide_eq_true c1
    have e0 : L.listS f n = [] := by unfold LG.listS; rw [show n.toNat = 0 by omega]; simp
    rw [e0]
    clear c1 hpl hlen hbl
    go_enter Try.func14, Try.ntmps14
    go_wp2
    go_ret
    exact ⟨_, rfl, Kd.V_nil _ _ _ _ _, Below.refl _ _⟩
  · have c1b : decide (n < 1) = false := decide_eq_false c1
    obtain ⟨ids, hids⟩ : ∃ ids, L.posts.map LP.id = ids := ⟨_, rfl⟩
    have hls : L.listS f n = (ids.drop (below ids f)).take n.toNat := by unfold LG.listS; rw [hids]
    rw [hls]
    rw [hids] at HI HS hbl hlen
    obtain ⟨at_, hat⟩ : ∃ at_, below ids f = at_ := ⟨_, rfl⟩
    rw [hat] at HS hbl ⊢
    clear hls hids hat
    obtain ⟨q, hq⟩ : ∃ q : Int, (if ((ids.drop at_).length : Int) < n then ((ids.drop at_).length : Int) else n) = q := ⟨_, rfl⟩
    have hq0 : 0 ≤ q ∧ q ≤ (ids.drop at_).length ∧ (ids.drop at_).take q.toNat = (ids.drop at_).take n.toNat := by
      split at hq
      · subst hq
        refine ⟨by omega, Int.le_refl _, ?_⟩
        rw [List.take_of_length_le (by omega), List.take_of_length_le (by omega)]
      · subst hq
        exact ⟨by omega, by omega, rfl⟩
    have HLC := Aside0.mk (list_cut ids at_ hbl q hq0.1 hq0.2.1)
    have e3 := hq0.2.2
    rw [← e3]
    obtain ⟨ys, hys⟩ : ∃ ys, ids.drop at_ = ys := ⟨_, rfl⟩
    rw [hys] at HLC hq ⊢
    obtain ⟨zs, hzs⟩ : ∃ zs, ys.take q.toNat = zs := ⟨_, rfl⟩
    rw [hzs] at HLC ⊢
    clear hq0 e3 hys hzs hbl c1 hpl hlen
    go_enter Try.func14, Try.ntmps14
    go_wp2_with (first
      | (go_at_call 24; refine HI.out.mono ?_; rintro e wI ⟨uI, rfl, hR, hbI⟩; obtain ⟨AI, cI, eI⟩ := Kd.R_slice hR; subst eI; have HRI := Aside0.mk hR; have HBI := Aside0.mk hbI; have HCI := Aside0.mk (Kd.R_reads' hR).2; clear hR hbI)
      | (go_at_call 28; (with_reducible refine (slices_BinarySearch_uint64_uint64.calls _ AI cI ids f _ _ _ ?s1 ?s2 HS.out).mono ?_); (case s1 => exact HCI.out.2); (case s2 => exact HCI.out.1); rintro e w2 ⟨rfl, hd⟩; have HD := Aside0.mk (drawn0_below hd); (obtain ⟨A1, c1, hcut, htk, hlz, hCz⟩ := HLC.out AI cI HCI.out.1); have HZ := Aside0.mk hlz; have HCZ := Aside0.mk hCz; clear hd hlz hCz))
    go_ret
    refine ⟨_, rfl, ⟨A1, c1, rfl, HZ.out, fun W' hW => HCZ.out W' ?_⟩, HBI.out.trans (HD.out.mono HBI.out.size)⟩
    have hR2 := Kd.R_below HRI.out HD.out
    exact (Kd.R_reads' (Kd.R_step (Kd.R_bound hR2) (fun k hk hlt => hW k ⟨hk.2.1, hlt⟩ hlt))).2.2
end Go.Proofs.Ytjfkenjmjoncbaa.Lg

end

section
namespace Go.Proofs.Ytjfkenjmjoncbaa.Lg
open Go Go.Maps Go.WideShapes Go.RowKit Go.Proofs.Ytjfkenjmjoncbaa.PAll Go.Proofs.YtjfkenjmjoncbaaW.PrintWords Go.Proofs.YtjfkenjmjoncbaaW.PrintLast Go.Proofs.YtjfkenjmjoncbaaW.PrintMore
set_option linter.unusedVariables false
set_option linter.unusedSimpArgs false

theorem rNewest_is {ps : List S42} {qs : List ByteArray} {a b : Int} (h : qs.length ≤ 100) : marginaliaref23_Newest.f ps qs a b = some (qs.length : Int) := by
  unfold marginaliaref23_Newest.f
  rw [show IntKind.u64.wrap (qs.length : Int) = (qs.length : Int) by simp [IntKind.wrap, IntKind.bits, IntKind.signed]; omega]
theorem rFind_is {l : List LP} {qs : List ByteArray} {a b id : Int} (hm : l.length ≤ 3000000) : ∀ (d i k : Nat), i + d = l.length → d < k →
    ∃ r, marginaliaref23_find.l0 k id (i : Int) (l.map lpS) qs a b = some r ∧ ((r = -1 ∧ (l.drop i).find? (fun p => p.id == id) = none) ∨ ∃ (j : Nat) (hj : j < l.length), r = (j : Int) ∧ (l.drop i).find? (fun p => p.id == id) = some l[j]) := by
  intro d
  induction d with
  | zero =>
    intro i k hi hk
    obtain ⟨k', rfl⟩ : ∃ k', k = k' + 1 := ⟨k - 1, by omega⟩
    refine ⟨-1, ?_, .inl ⟨rfl, ?_⟩⟩
    · rw [marginaliaref23_find.l0, if_neg (by rw [List.length_map]; omega)]
    · rw [List.drop_eq_nil_of_le (by omega)]; rfl
  | succ d ih =>
    intro i k hi hk
    obtain ⟨k', rfl⟩ : ∃ k', k = k' + 1 := ⟨k - 1, by omega⟩
    have h1 : i < l.length := by omega
    rw [marginaliaref23_find.l0, if_pos (by rw [List.length_map]; omega), if_pos (by omega), rd42_map h1, List.drop_eq_getElem_cons h1, List.find?_cons]
    by_cases c : l[i].id = id
    · rw [if_pos (show (lpS l[i]).f0 = id from c)]
      refine ⟨_, rfl, .inr ⟨i, h1, rfl, ?_⟩⟩
      simp [c]
    · rw [if_neg (show ¬ (lpS l[i]).f0 = id from c), show wrap64 ((i : Int) + 1) = ((i + 1 : Nat) : Int) by unfold wrap64; omega]
      obtain ⟨r, hr, h⟩ := ih (i + 1) k' (by omega) (by omega)
      refine ⟨r, hr, ?_⟩
      have e : (l[i].id == id) = false := beq_eq_false_iff_ne.2 c
      rw [e]
      exact h
theorem rGet_is {L : LG} {a b id : Int} (hm : L.posts.length ≤ 3000000) : marginaliaref23_Get.f (L.posts.length + 1) (L.posts.map lpS) L.pols a b id = some ((L.get id).id, (L.get id).ver, (L.get id).text, L.is id) := by
  unfold marginaliaref23_Get.f marginaliaref23_find.f
  obtain ⟨r, hr, h⟩ := rFind_is (qs := L.pols) (a := a) (b := b) (id := id) hm L.posts.length 0 (L.posts.length + 1) (by omega) (by omega)
  rw [List.drop_zero] at h
  rw [show (0 : Int) = ((0 : Nat) : Int) from rfl, hr]
  simp only [Option.bind_some]
  rcases h with ⟨rfl, h⟩ | ⟨j, hj, rfl, h⟩
  · rw [if_pos (by omega)]
    have e : L.is id = false := by
      unfold LG.is
      rw [List.any_eq_false]
      intro x hx
      simpa using List.find?_eq_none.1 h x hx
    rw [e]
    unfold LG.get
    rw [h]
    rfl
  · rw [if_neg (by omega), if_pos (by omega), if_pos (by rw [List.length_map]; omega), rd42_map hj]
    have e : L.is id = true := by
      unfold LG.is
      rw [List.any_eq_true]
      exact ⟨_, List.mem_of_find?_eq_some h, List.find?_some (p := fun p : LP => p.id == id) h⟩
    rw [e]
    unfold LG.get
    rw [h]
    rfl
theorem rStale_loop {L : LG} {nx : Int} (hm : L.posts.length ≤ 3000000) (hp : L.pols.length ≤ 100) : ∀ (d i k : Nat), i + d = L.posts.length → d < k →
    marginaliaref23_Stale.l0 k (i : Int) (L.posts.map lpS) L.pols nx L.cur = some (match (L.posts.drop i).find? L.cand with | some p => (p.id, p.ver, p.text, true) | none => (0, 0, ⟨#[]⟩, false)) := by
  intro d
  induction d with
  | zero =>
    intro i k hi hk
    obtain ⟨k', rfl⟩ : ∃ k', k = k' + 1 := ⟨k - 1, by omega⟩
    rw [marginaliaref23_Stale.l0, if_neg (by rw [List.length_map]; omega), List.drop_eq_nil_of_le (by omega)]
    rfl
  | succ d ih =>
    intro i k hi hk
    obtain ⟨k', rfl⟩ : ∃ k', k = k' + 1 := ⟨k - 1, by omega⟩
    have h1 : i < L.posts.length := by omega
    rw [marginaliaref23_Stale.l0, if_pos (by rw [List.length_map]; omega), if_pos (by omega), rNewest_is hp, rd42_map h1, List.drop_eq_getElem_cons h1, List.find?_cons]
    simp only [Option.bind_some]
    have hw : wrap64 ((i : Int) + 1) = ((i + 1 : Nat) : Int) := by unfold wrap64; omega
    rw [hw, ih (i + 1) k' (by omega) (by omega)]
    have e0 : (lpS L.posts[i]).f0 = L.posts[i].id := rfl
    have e1 : (lpS L.posts[i]).f1 = L.posts[i].ver := rfl
    have e2 : (lpS L.posts[i]).f2 = L.posts[i].text := rfl
    rw [e0, e1, e2]
    by_cases c1 : L.posts[i].ver = (L.pols.length : Int)
    · have e : L.cand L.posts[i] = false := by unfold LG.cand LG.newest; rw [decide_eq_false (by simpa using c1)]; rfl
      rw [if_pos c1, e]
    · rw [if_neg c1]
      by_cases c2 : L.cur < L.posts[i].id
      · have e : L.cand L.posts[i] = true := by unfold LG.cand LG.newest; rw [decide_eq_true c1, decide_eq_true c2]; rfl
        rw [if_pos c2, e]
      · have e : L.cand L.posts[i] = false := by unfold LG.cand; rw [decide_eq_false c2, Bool.and_false]
        rw [if_neg c2, e]
theorem rStale_is {L : LG} {nx : Int} (hm : L.posts.length ≤ 3000000) (hp : L.pols.length ≤ 100) : marginaliaref23_Stale.f (L.posts.length + 1) (L.posts.map lpS) L.pols nx L.cur = some (L.staleP.id, L.staleP.ver, L.staleP.text, L.stale.isSome) := by
  unfold marginaliaref23_Stale.f
  rw [show (0 : Int) = ((0 : Nat) : Int) from rfl, rStale_loop hm hp L.posts.length 0 _ (by omega) (by omega), List.drop_zero]
  unfold LG.staleP LG.stale
  cases L.posts.find? L.cand <;> rfl
theorem rPolicy_is {L : LG} {a b id : Int} (hp : L.pols.length ≤ 100) (hid : 0 ≤ id ∧ id ≤ 18446744073709551615) : marginaliaref23_Policy.f (L.posts.map lpS) L.pols a b id = some (L.pol id, decide (¬ (id < 1 ∨ L.newest < id))) := by
  unfold marginaliaref23_Policy.f LG.pol
  have hn : L.newest = (L.pols.length : Int) := rfl
  by_cases c1 : id < 1
  · rw [if_pos c1, if_pos (.inl c1), decide_eq_false (fun h => h (.inl c1))]
    rfl
  · rw [if_neg c1, rNewest_is hp]
    simp only [Option.bind_some]
    by_cases c2 : L.newest < id
    · rw [if_pos (show id > (L.pols.length : Int) by omega), if_pos (.inr c2), decide_eq_false (fun h => h (.inr c2))]
      rfl
    · have hw : IntKind.u64.wrap (id - 1) = id - 1 := by simp [IntKind.wrap, IntKind.bits, IntKind.signed]; omega
      rw [if_neg (show ¬ id > (L.pols.length : Int) by omega), hw, if_pos (by omega), if_pos (by omega), if_neg (by omega), decide_eq_true (by omega)]
theorem rStatus_is {L : LG} {a b : Int} (hp : L.pols.length ≤ 100) : marginaliaref23_Status.f (L.posts.map lpS) L.pols a b = some (a, L.newest, (L.posts.length : Int), b) := by
  unfold marginaliaref23_Status.f
  rw [rNewest_is hp, List.length_map]
  rfl
theorem filter_below {l : List Int} (h : l.Pairwise (· < ·)) (t : Int) : l.filter (fun x => decide (t ≤ x)) = l.drop (below l t) := by
  induction l with
  | nil => rfl
  | cons a l ih =>
    obtain ⟨ha, hl⟩ := List.pairwise_cons.1 h
    by_cases c : a < t
    · have e : below (a :: l) t = below l t + 1 := by unfold below; rw [List.filter_cons, if_pos (by simpa using c)]; rfl
      rw [e, List.drop_succ_cons, List.filter_cons, if_neg (by simp; omega), ih hl]
    · have e0 : below (a :: l) t = 0 := by
        unfold below
        rw [List.filter_cons, if_neg (by simpa using c), List.filter_eq_nil_iff.2 (fun x hx => by have := ha x hx; simp; omega)]
        rfl
      rw [e0, List.drop_zero, List.filter_eq_self]
      intro x hx
      rcases List.mem_cons.1 hx with rfl | hx
      · simp; omega
      · have := ha x hx
        simp; omega
theorem rList_loop {l : List LP} {qs : List ByteArray} {a b f n : Int} (hm : l.length ≤ 3000000) : ∀ (d i k : Nat) (acc : List Int), i + d = l.length → 2 * d + 1 < k → acc.length ≤ i →
    marginaliaref23_List.l0 k f n acc (i : Int) (l.map lpS) qs a b = some (acc ++ (((l.drop i).map LP.id).filter (fun x => decide (f ≤ x))).take (n.toNat - acc.length)) := by
  intro d
  induction d with
  | zero =>
    intro i k acc hi hk ha
    obtain ⟨k', rfl⟩ : ∃ k', k = k' + 2 := ⟨k - 2, by omega⟩
    rw [marginaliaref23_List.l0, if_neg (by rw [List.length_map]; omega), marginaliaref23_List.j1, if_neg (by decide), List.drop_eq_nil_of_le (by omega)]
    simp
  | succ d ih =>
    intro i k acc hi hk ha
    obtain ⟨k', rfl⟩ : ∃ k', k = k' + 2 := ⟨k - 2, by omega⟩
    have h1 : i < l.length := by omega
    rw [marginaliaref23_List.l0, if_pos (by rw [List.length_map]; omega), marginaliaref23_List.j1]
    by_cases c : (acc.length : Int) < n
    · rw [if_pos (decide_eq_true c), if_pos (by omega), if_pos (by rw [List.length_map]; omega), rd42_map h1, show wrap64 ((i : Int) + 1) = ((i + 1 : Nat) : Int) by unfold wrap64; omega, List.drop_eq_getElem_cons h1, List.map_cons, List.filter_cons]
      have e0 : (lpS l[i]).f0 = l[i].id := rfl
      rw [e0]
      by_cases c2 : f ≤ l[i].id
      · rw [if_pos c2, if_pos (by omega), ih (i + 1) k' _ (by omega) (by omega) (by simp; omega), if_pos (by simpa using c2)]
        obtain ⟨m, hm2⟩ : ∃ m, n.toNat - acc.length = m + 1 := ⟨n.toNat - acc.length - 1, by omega⟩
        rw [hm2, List.take_succ_cons, List.length_append, List.length_singleton, show n.toNat - (acc.length + 1) = m by omega, List.append_assoc]
        rfl
      · rw [if_neg c2, ih (i + 1) k' _ (by omega) (by omega) (by omega), if_neg (by simpa using c2)]
    · rw [if_neg (by simpa using c), show n.toNat - acc.length = 0 by omega]
      simp
theorem rList_is {L : LG} {a b f n : Int} (hm : L.posts.length ≤ 3000000) (h : Rise L.posts) : marginaliaref23_List.f (2 * L.posts.length + 2) (L.posts.map lpS) L.pols a b f n = some (L.listS f n) := by
  unfold marginaliaref23_List.f
  rw [show (0 : Int) = ((0 : Nat) : Int) from rfl, rList_loop hm L.posts.length 0 _ [] (by omega) (by omega) (by simp), List.drop_zero, filter_below h.ids f]
  simp [LG.listS]
theorem rNumbers_loop {l : List Int} (hm : l.length ≤ 3000000) : ∀ (d i k : Nat), i + d = l.length → d < k → marginaliaref23_Numbers.l0 k l l (i : Int) = some true := by
  intro d
  induction d with
  | zero =>
    intro i k hi hk
    obtain ⟨k', rfl⟩ : ∃ k', k = k' + 1 := ⟨k - 1, by omega⟩
    rw [marginaliaref23_Numbers.l0, if_neg (by omega)]
  | succ d ih =>
    intro i k hi hk
    obtain ⟨k', rfl⟩ : ∃ k', k = k' + 1 := ⟨k - 1, by omega⟩
    rw [marginaliaref23_Numbers.l0, if_pos (by omega), if_pos (by omega), if_pos (by omega), if_pos rfl, show wrap64 ((i : Int) + 1) = ((i + 1 : Nat) : Int) by unfold wrap64; omega, ih (i + 1) k' (by omega) (by omega)]
theorem rNumbers_is {l : List Int} (hm : l.length ≤ 3000000) : marginaliaref23_Numbers.f (l.length + 1) l l = some true := by
  unfold marginaliaref23_Numbers.f
  rw [if_pos rfl]
  exact rNumbers_loop hm l.length 0 _ (by omega) (by omega)
set_option maxHeartbeats 8000000 in
set_option maxRecDepth 100000 in
theorem alike_calls {w : World} {B B' g b n : Nat} {v vP vQ : Value} {L : LG} (h : Led w B g b n v L) (hn : n ≤ 1000000) (hr : RRows w B' vP vQ L) {id : Int} (hid : 0 ≤ id ∧ id ≤ 18446744073709551615) {nn : Int} (hnn : (Lit.int .i64 nn).wf = true) :
    Calls Try.prog 21 #[.pointer (some ⟨g, 0, none⟩), .agg #[vP, vQ, .int .u64 L.next, .int .u64 L.cur], .int .u64 id, .int .i64 nn] w fun e w' => e = .returned (.bool true) ∧ Below w.heap.size w w' := by
  obtain ⟨AP, cP, eP, hcP, hCP⟩ := Kd.R_reads hr.posts
  obtain ⟨AQ, cQ, eQ, hcQ, hCQ⟩ := Kd.R_reads hr.pols
  have hok := h.ok
  have hp := hok.pols
  have hl : L.posts.length ≤ 3000000 := by have := h.len; omega
  have F15 := Aside0.mk (show ∀ W, Below w.heap.size w W → Calls Try.prog 15 #[.pointer (some ⟨g, 0, none⟩), .int .u64 id] W fun e w' => e = .returned (.tuple #[.agg #[.int .u64 (L.get id).id, .int .u64 (L.get id).ver, .string (L.get id).text], .bool (L.is id)]) ∧ Below W.heap.size W w' from fun W hb => Get_calls (h.below hb) hid)
  have F16 := Aside0.mk (show ∀ W, Below w.heap.size w W → Calls Try.prog 16 #[.pointer (some ⟨g, 0, none⟩)] W fun e w' => e = .returned (.tuple #[.agg #[.int .u64 L.staleP.id, .int .u64 L.staleP.ver, .string L.staleP.text], .bool L.stale.isSome]) ∧ Below W.heap.size W w' from fun W hb => Stale_calls (h.below hb))
  have F22 := Aside0.mk (show ∀ W, Below w.heap.size w W → Calls Try.prog 22 #[.pointer (some ⟨g, 0, none⟩), .int .u64 id] W fun e w' => e = .returned (.tuple #[.string (L.pol id), .bool (decide (¬ (id < 1 ∨ L.newest < id)))]) ∧ Below W.heap.size W w' from fun W hb => (Policy_calls (h.below hb) hid).mono (fun e w' hq => ⟨hq.1, hq.2 ▸ Below.refl _ _⟩))
  have F13 := Aside0.mk (show ∀ W, Below w.heap.size w W → Calls Try.prog 13 #[.pointer (some ⟨g, 0, none⟩)] W fun e w' => e = .returned (.agg #[.int .u64 L.next, .int .u64 L.newest, .int .i64 L.posts.length, .int .u64 L.cur]) ∧ Below W.heap.size W w' from fun W hb => Status_calls (h.below hb))
  have F14 := Aside0.mk (show ∀ W, Below w.heap.size w W → Calls Try.prog 14 #[.pointer (some ⟨g, 0, none⟩), .int .u64 id, .int .i64 nn] W fun e w' => ∃ A c, e = .returned (.slice A (L.listS id nn).length c) ∧ (L.listS id nn).length ≤ c ∧ Kd.C (Kd.int .u64) w' A (L.listS id nn).length (L.listS id nn) ∧ Below W.heap.size W w' from fun W hb => (List_calls (h.below hb) hn id nn hnn).mono (fun e w' hq => by obtain ⟨u, e1, ⟨A, c, e2, hl, hF⟩, hb2⟩ := hq; subst e2; exact ⟨A, c, e1, hl, Kd.F_now hF, hb2⟩))
  have F9 := Aside0.mk (show ∀ W, Below w.heap.size w W → Calls Try.prog 9 #[.pointer (some ⟨g, 0, none⟩)] W fun e w' => ∃ u B1, e = .returned u ∧ PRow w' B1 u L.pairsS ∧ Below W.heap.size W w' from fun W hb => (Pairs_calls (h.below hb) hn).mono (fun e w' hq => by obtain ⟨u, B1, e1, _, h2, h3⟩ := hq; exact ⟨u, B1, e1, h2, h3⟩))
  have F42 := Aside0.mk (show ∀ W, Below w.heap.size w W → Calls Try.prog 42 #[.agg #[vP, vQ, .int .u64 L.next, .int .u64 L.cur]] W fun e w' => ∃ u B1, e = .returned u ∧ PRow w' B1 u L.pairsS ∧ Below W.heap.size W w' from fun W hb => (RPairs_calls (hr.below hb) hok (by have := h.len; omega)).mono (fun e w' hq => by obtain ⟨u, B1, e1, _, h2, h3⟩ := hq; exact ⟨u, B1, e1, h2, h3⟩))
  subst eP; subst eQ
  rw [List.length_map] at F42
  have F36 := Aside0.mk (show ∀ W, Below w.heap.size w W → Calls Try.prog 36 #[.agg #[.slice AP L.posts.length cP, .slice AQ L.pols.length cQ, .int .u64 L.next, .int .u64 L.cur], .int .u64 id] W fun e w' => e = .returned (.tuple #[.agg #[.int .u64 (L.get id).id, .int .u64 (L.get id).ver, .string (L.get id).text], .bool (L.is id)]) ∧ Below W.heap.size W w' from fun W hb => by
    have h_ := marginaliaref23_Get.calls (L.posts.length + 1) AP cP (L.posts.map lpS) AQ cQ L.pols L.next L.cur id _ _ _ _ W (Kd.C_below hCP hb) hcP (Kd.C_below hCQ hb) hcQ (rGet_is hl)
    rwa [List.length_map] at h_)
  have F37 := Aside0.mk (show ∀ W, Below w.heap.size w W → Calls Try.prog 37 #[.agg #[.slice AP L.posts.length cP, .slice AQ L.pols.length cQ, .int .u64 L.next, .int .u64 L.cur]] W fun e w' => e = .returned (.tuple #[.agg #[.int .u64 L.staleP.id, .int .u64 L.staleP.ver, .string L.staleP.text], .bool L.stale.isSome]) ∧ Below W.heap.size W w' from fun W hb => by
    have h_ := marginaliaref23_Stale.calls (L.posts.length + 1) AP cP (L.posts.map lpS) AQ cQ L.pols L.next L.cur _ _ _ _ W (Kd.C_below hCP hb) hcP (Kd.C_below hCQ hb) hcQ (rStale_is hl hp)
    rwa [List.length_map] at h_)
  have F38 := Aside0.mk (show ∀ W, Below w.heap.size w W → Calls Try.prog 38 #[.agg #[.slice AP L.posts.length cP, .slice AQ L.pols.length cQ, .int .u64 L.next, .int .u64 L.cur], .int .u64 id] W fun e w' => e = .returned (.tuple #[.string (L.pol id), .bool (decide (¬ (id < 1 ∨ L.newest < id)))]) ∧ Below W.heap.size W w' from fun W hb => by
    have h_ := marginaliaref23_Policy.calls AP cP (L.posts.map lpS) AQ cQ L.pols L.next L.cur id _ _ W (Kd.C_below hCP hb) hcP (Kd.C_below hCQ hb) hcQ (rPolicy_is hp hid)
    rwa [List.length_map] at h_)
  have F39 := Aside0.mk (show ∀ W, Below w.heap.size w W → Calls Try.prog 39 #[.agg #[.slice AP L.posts.length cP, .slice AQ L.pols.length cQ, .int .u64 L.next, .int .u64 L.cur]] W fun e w' => e = .returned (.agg #[.int .u64 L.next, .int .u64 L.newest, .int .i64 L.posts.length, .int .u64 L.cur]) ∧ Below W.heap.size W w' from fun W hb => by
    have h_ := marginaliaref23_Status.calls AP cP (L.posts.map lpS) AQ cQ L.pols L.next L.cur _ _ _ _ W (Kd.C_below hCP hb) hcP (Kd.C_below hCQ hb) hcQ (rStatus_is hp)
    rwa [List.length_map] at h_)
  have F41 := Aside0.mk (show ∀ W, Below w.heap.size w W → Calls Try.prog 41 #[.agg #[.slice AP L.posts.length cP, .slice AQ L.pols.length cQ, .int .u64 L.next, .int .u64 L.cur], .int .u64 id, .int .i64 nn] W fun e w' => ∃ A c, e = .returned (.slice A (L.listS id nn).length c) ∧ (L.listS id nn).length ≤ c ∧ Kd.C (Kd.int .u64) w' A (L.listS id nn).length (L.listS id nn) ∧ Below W.heap.size W w' from fun W hb => by
    have h_ := marginaliaref23_List.calls (2 * L.posts.length + 2) AP cP (L.posts.map lpS) AQ cQ L.pols L.next L.cur id nn _ W (Kd.C_below hCP hb) hcP (Kd.C_below hCQ hb) hcQ (rList_is hl hok.rise)
    rw [List.length_map] at h_
    refine h_.mono (fun e w' hq => ?_)
    obtain ⟨u, e1, hR, hb2⟩ := hq
    obtain ⟨A, c, e2, hlc, hC⟩ := Kd.R_reads hR
    subst e2
    exact ⟨A, c, e1, hlc, hC, hb2⟩)
  have hLL : (L.listS id nn).length ≤ 3000000 := by unfold LG.listS; rw [List.length_take, List.length_drop, List.length_map]; omega
  have hPL : L.pairsS.length ≤ 3000000 := by have := h.len; simp [LG.pairsS, polsS]; omega
  have F40 := Aside0.mk (show ∀ W A c A' c', (L.listS id nn).length ≤ c → Kd.C (Kd.int .u64) W A (L.listS id nn).length (L.listS id nn) → (L.listS id nn).length ≤ c' → Kd.C (Kd.int .u64) W A' (L.listS id nn).length (L.listS id nn) → Calls Try.prog 40 #[.slice A (L.listS id nn).length c, .slice A' (L.listS id nn).length c'] W fun e w' => e = .returned (.bool true) ∧ Below W.heap.size W w' from fun W A c A' c' h1 h2 h3 h4 =>
    (marginaliaref23_Numbers.calls ((L.listS id nn).length + 1) A c _ A' c' _ true W h2 h1 h4 h3 (rNumbers_is hLL)).mono (fun e w' hq => ⟨hq.1, drawn0_below hq.2⟩))
  have F12 := Aside0.mk (show ∀ W u u' B1 B2, PRow W B1 u L.pairsS → PRow W B2 u' L.pairsS → Calls Try.prog 12 #[u, u'] W fun e w' => e = .returned (.bool true) ∧ Below W.heap.size W w' from fun W u u' B1 B2 h1 h2 => by
    obtain ⟨r, hr, hc⟩ := same_calls h1.top h2.top (pairsS_bytes L) (pairsS_bytes L) hPL
    have e : r = true := hr.2 rfl
    subst e
    exact hc.mono (fun e w' hq => ⟨hq.1, drawn0_below hq.2⟩))
  have HB := Aside0.mk (Below.refl w.heap.size w)
  clear h hr hCP hCQ hcP hcQ hok hl hLL hPL hid hnn hn hp
  generalize (L.get id).id = i1 at F15 F36
  generalize (L.get id).ver = v1 at F15 F36
  generalize (L.get id).text = x1 at F15 F36
  generalize L.is id = t1 at F15 F36
  generalize L.staleP.id = i2 at F16 F37
  generalize L.staleP.ver = v2 at F16 F37
  generalize L.staleP.text = x2 at F16 F37
  generalize L.stale.isSome = t2 at F16 F37
  generalize L.pol id = x3 at F22 F38
  generalize decide (¬ (id < 1 ∨ L.newest < id)) = t3 at F22 F38
  generalize L.newest = nw at F13 F39
  generalize L.listS id nn = ls at F14 F41 F40
  generalize L.pairsS = pr at F9 F42 F12
  go_enter Try.func21, Try.ntmps21
  go_wp2_with (first
    | ((with_reducible refine gate_dst (N := 5) rfl ?_); refine box_event ?hg (N := 5) ?hd (cs := #[.slice AP L.posts.length cP, .slice AQ L.pols.length cQ, .int .u64 L.next, .int .u64 L.cur]) (t := 58) ?hr ?_; (case hd => rfl); (case hg => rfl); (case hr => first | (go_simp; done) | (go_simp; rfl)); intro gb hg w5 hbox hb; have BK := Aside0.mk hbox; clear HB; have HB := Aside0.mk hb; clear hg hbox hb; have b0 : w5.cell? ⟨gb, 0, none⟩ = some (.slice AP L.posts.length cP) := (blk_cell BK.out 0).trans rfl; have b1 : w5.cell? ⟨gb, 1, none⟩ = some (.slice AQ L.pols.length cQ) := (blk_cell BK.out 1).trans rfl; have b2 : w5.cell? ⟨gb, 2, none⟩ = some (.int .u64 L.next) := (blk_cell BK.out 2).trans rfl; have b3 : w5.cell? ⟨gb, 3, none⟩ = some (.int .u64 L.cur) := (blk_cell BK.out 3).trans rfl; have hz := blk_lt BK.out)
    | (go_at_call 15; (with_reducible refine (F15.out _ ?sb).mono ?_); (case sb => exact (by repeat (first | (with_reducible first | exact HB.out | apply below_alloc | apply pw_below_drewN | apply below_drew1 | apply below_drew) | exact HB.out))); rintro e w6 ⟨rfl, hb⟩; have nB_ : Aside0 (Below w.heap.size w w6) := ⟨(show Below w.heap.size w _ from (by repeat (first | (with_reducible first | exact HB.out | apply below_alloc | apply pw_below_drewN | apply below_drew1 | apply below_drew) | exact HB.out))).trans (hb.mono (below_size (by repeat (first | (with_reducible first | exact HB.out | apply below_alloc | apply pw_below_drewN | apply below_drew1 | apply below_drew) | exact HB.out))))⟩; have nK_ : Aside0 (w6.heap[gb]? = some (.cells #[.slice AP L.posts.length cP, .slice AQ L.pols.length cQ, .int .u64 L.next, .int .u64 L.cur] 58)) := ⟨blk_below (by (with_reducible repeat (first | refine blk_drewN ?_ _ | refine blk_drew ?_ | refine blk_alloc ?_ _)); exact BK.out) hb⟩; clear HB BK b0 b1 b2 b3 hz hb; have HB := nB_; have BK := nK_; clear nB_ nK_; have b0 : w6.cell? ⟨gb, 0, none⟩ = some (.slice AP L.posts.length cP) := (blk_cell BK.out 0).trans rfl; have b1 : w6.cell? ⟨gb, 1, none⟩ = some (.slice AQ L.pols.length cQ) := (blk_cell BK.out 1).trans rfl; have b2 : w6.cell? ⟨gb, 2, none⟩ = some (.int .u64 L.next) := (blk_cell BK.out 2).trans rfl; have b3 : w6.cell? ⟨gb, 3, none⟩ = some (.int .u64 L.cur) := (blk_cell BK.out 3).trans rfl; have hz := blk_lt BK.out)
    | (go_at_call 36; (with_reducible refine (F36.out _ ?sb).mono ?_); (case sb => exact (by repeat (first | (with_reducible first | exact HB.out | apply below_alloc | apply pw_below_drewN | apply below_drew1 | apply below_drew) | exact HB.out))); rintro e w7 ⟨rfl, hb⟩; have nB_ : Aside0 (Below w.heap.size w w7) := ⟨(show Below w.heap.size w _ from (by repeat (first | (with_reducible first | exact HB.out | apply below_alloc | apply pw_below_drewN | apply below_drew1 | apply below_drew) | exact HB.out))).trans (hb.mono (below_size (by repeat (first | (with_reducible first | exact HB.out | apply below_alloc | apply pw_below_drewN | apply below_drew1 | apply below_drew) | exact HB.out))))⟩; have nK_ : Aside0 (w7.heap[gb]? = some (.cells #[.slice AP L.posts.length cP, .slice AQ L.pols.length cQ, .int .u64 L.next, .int .u64 L.cur] 58)) := ⟨blk_below (by (with_reducible repeat (first | refine blk_drewN ?_ _ | refine blk_drew ?_ | refine blk_alloc ?_ _)); exact BK.out) hb⟩; have n9_ : Aside0 (w7.heap[w6.heap.size]? = some (.cells #[.int .u64 i1, .int .u64 v1, .string x1] 42)) := ⟨blk_below (blk_new w6 (.cells #[.int .u64 i1, .int .u64 v1, .string x1] 42)) hb⟩; clear HB BK b0 b1 b2 b3 hz hb; have HB := nB_; have BK := nK_; clear nB_ nK_; have K9 := n9_; clear n9_; generalize w6.heap.size = g9 at K9 ⊢; have b0 : w7.cell? ⟨gb, 0, none⟩ = some (.slice AP L.posts.length cP) := (blk_cell BK.out 0).trans rfl; have b1 : w7.cell? ⟨gb, 1, none⟩ = some (.slice AQ L.pols.length cQ) := (blk_cell BK.out 1).trans rfl; have b2 : w7.cell? ⟨gb, 2, none⟩ = some (.int .u64 L.next) := (blk_cell BK.out 2).trans rfl; have b3 : w7.cell? ⟨gb, 3, none⟩ = some (.int .u64 L.cur) := (blk_cell BK.out 3).trans rfl; have hz := blk_lt BK.out)
    | (go_at_call 16; (with_reducible refine (F16.out _ ?sb).mono ?_); (case sb => exact (by repeat (first | (with_reducible first | exact HB.out | apply below_alloc | apply pw_below_drewN | apply below_drew1 | apply below_drew) | exact HB.out))); rintro e w8 ⟨rfl, hb⟩; have nB_ : Aside0 (Below w.heap.size w w8) := ⟨(show Below w.heap.size w _ from (by repeat (first | (with_reducible first | exact HB.out | apply below_alloc | apply pw_below_drewN | apply below_drew1 | apply below_drew) | exact HB.out))).trans (hb.mono (below_size (by repeat (first | (with_reducible first | exact HB.out | apply below_alloc | apply pw_below_drewN | apply below_drew1 | apply below_drew) | exact HB.out))))⟩; have nK_ : Aside0 (w8.heap[gb]? = some (.cells #[.slice AP L.posts.length cP, .slice AQ L.pols.length cQ, .int .u64 L.next, .int .u64 L.cur] 58)) := ⟨blk_below (by (with_reducible repeat (first | refine blk_drewN ?_ _ | refine blk_drew ?_ | refine blk_alloc ?_ _)); exact BK.out) hb⟩; have n9_ : Aside0 (w8.heap[g9]? = some (.cells #[.int .u64 i1, .int .u64 v1, .string x1] 42)) := ⟨blk_below (by (with_reducible repeat (first | refine blk_drewN ?_ _ | refine blk_drew ?_ | refine blk_alloc ?_ _)); exact K9.out) hb⟩; have n11_ : Aside0 (w8.heap[w7.heap.size]? = some (.cells #[.int .u64 i1, .int .u64 v1, .string x1] 42)) := ⟨blk_below (blk_new w7 (.cells #[.int .u64 i1, .int .u64 v1, .string x1] 42)) hb⟩; clear HB BK b0 b1 b2 b3 hz hb; have HB := nB_; have BK := nK_; clear nB_ nK_; clear K9; have K9 := n9_; clear n9_; have K11 := n11_; clear n11_; generalize w7.heap.size = g11 at K11 ⊢; have b0 : w8.cell? ⟨gb, 0, none⟩ = some (.slice AP L.posts.length cP) := (blk_cell BK.out 0).trans rfl; have b1 : w8.cell? ⟨gb, 1, none⟩ = some (.slice AQ L.pols.length cQ) := (blk_cell BK.out 1).trans rfl; have b2 : w8.cell? ⟨gb, 2, none⟩ = some (.int .u64 L.next) := (blk_cell BK.out 2).trans rfl; have b3 : w8.cell? ⟨gb, 3, none⟩ = some (.int .u64 L.cur) := (blk_cell BK.out 3).trans rfl; have hz := blk_lt BK.out)
    | (go_at_call 37; (with_reducible refine (F37.out _ ?sb).mono ?_); (case sb => exact (by repeat (first | (with_reducible first | exact HB.out | apply below_alloc | apply pw_below_drewN | apply below_drew1 | apply below_drew) | exact HB.out))); rintro e w9 ⟨rfl, hb⟩; have nB_ : Aside0 (Below w.heap.size w w9) := ⟨(show Below w.heap.size w _ from (by repeat (first | (with_reducible first | exact HB.out | apply below_alloc | apply pw_below_drewN | apply below_drew1 | apply below_drew) | exact HB.out))).trans (hb.mono (below_size (by repeat (first | (with_reducible first | exact HB.out | apply below_alloc | apply pw_below_drewN | apply below_drew1 | apply below_drew) | exact HB.out))))⟩; have nK_ : Aside0 (w9.heap[gb]? = some (.cells #[.slice AP L.posts.length cP, .slice AQ L.pols.length cQ, .int .u64 L.next, .int .u64 L.cur] 58)) := ⟨blk_below (by (with_reducible repeat (first | refine blk_drewN ?_ _ | refine blk_drew ?_ | refine blk_alloc ?_ _)); exact BK.out) hb⟩; have n9_ : Aside0 (w9.heap[g9]? = some (.cells #[.int .u64 i1, .int .u64 v1, .string x1] 42)) := ⟨blk_below (by (with_reducible repeat (first | refine blk_drewN ?_ _ | refine blk_drew ?_ | refine blk_alloc ?_ _)); exact K9.out) hb⟩; have n11_ : Aside0 (w9.heap[g11]? = some (.cells #[.int .u64 i1, .int .u64 v1, .string x1] 42)) := ⟨blk_below (by (with_reducible repeat (first | refine blk_drewN ?_ _ | refine blk_drew ?_ | refine blk_alloc ?_ _)); exact K11.out) hb⟩; have n13_ : Aside0 (w9.heap[w8.heap.size]? = some (.cells #[.int .u64 i2, .int .u64 v2, .string x2] 42)) := ⟨blk_below (blk_new w8 (.cells #[.int .u64 i2, .int .u64 v2, .string x2] 42)) hb⟩; clear HB BK b0 b1 b2 b3 hz hb; have HB := nB_; have BK := nK_; clear nB_ nK_; clear K9; have K9 := n9_; clear n9_; clear K11; have K11 := n11_; clear n11_; have K13 := n13_; clear n13_; generalize w8.heap.size = g13 at K13 ⊢; have b0 : w9.cell? ⟨gb, 0, none⟩ = some (.slice AP L.posts.length cP) := (blk_cell BK.out 0).trans rfl; have b1 : w9.cell? ⟨gb, 1, none⟩ = some (.slice AQ L.pols.length cQ) := (blk_cell BK.out 1).trans rfl; have b2 : w9.cell? ⟨gb, 2, none⟩ = some (.int .u64 L.next) := (blk_cell BK.out 2).trans rfl; have b3 : w9.cell? ⟨gb, 3, none⟩ = some (.int .u64 L.cur) := (blk_cell BK.out 3).trans rfl; have hz := blk_lt BK.out)
    | (go_at_call 22; (with_reducible refine (F22.out _ ?sb).mono ?_); (case sb => exact (by repeat (first | (with_reducible first | exact HB.out | apply below_alloc | apply pw_below_drewN | apply below_drew1 | apply below_drew) | exact HB.out))); rintro e w10 ⟨rfl, hb⟩; have nB_ : Aside0 (Below w.heap.size w w10) := ⟨(show Below w.heap.size w _ from (by repeat (first | (with_reducible first | exact HB.out | apply below_alloc | apply pw_below_drewN | apply below_drew1 | apply below_drew) | exact HB.out))).trans (hb.mono (below_size (by repeat (first | (with_reducible first | exact HB.out | apply below_alloc | apply pw_below_drewN | apply below_drew1 | apply below_drew) | exact HB.out))))⟩; have nK_ : Aside0 (w10.heap[gb]? = some (.cells #[.slice AP L.posts.length cP, .slice AQ L.pols.length cQ, .int .u64 L.next, .int .u64 L.cur] 58)) := ⟨blk_below (by (with_reducible repeat (first | refine blk_drewN ?_ _ | refine blk_drew ?_ | refine blk_alloc ?_ _)); exact BK.out) hb⟩; have n9_ : Aside0 (w10.heap[g9]? = some (.cells #[.int .u64 i1, .int .u64 v1, .string x1] 42)) := ⟨blk_below (by (with_reducible repeat (first | refine blk_drewN ?_ _ | refine blk_drew ?_ | refine blk_alloc ?_ _)); exact K9.out) hb⟩; have n11_ : Aside0 (w10.heap[g11]? = some (.cells #[.int .u64 i1, .int .u64 v1, .string x1] 42)) := ⟨blk_below (by (with_reducible repeat (first | refine blk_drewN ?_ _ | refine blk_drew ?_ | refine blk_alloc ?_ _)); exact K11.out) hb⟩; have n13_ : Aside0 (w10.heap[g13]? = some (.cells #[.int .u64 i2, .int .u64 v2, .string x2] 42)) := ⟨blk_below (by (with_reducible repeat (first | refine blk_drewN ?_ _ | refine blk_drew ?_ | refine blk_alloc ?_ _)); exact K13.out) hb⟩; have n15_ : Aside0 (w10.heap[w9.heap.size]? = some (.cells #[.int .u64 i2, .int .u64 v2, .string x2] 42)) := ⟨blk_below (blk_new w9 (.cells #[.int .u64 i2, .int .u64 v2, .string x2] 42)) hb⟩; clear HB BK b0 b1 b2 b3 hz hb; have HB := nB_; have BK := nK_; clear nB_ nK_; clear K9; have K9 := n9_; clear n9_; clear K11; have K11 := n11_; clear n11_; clear K13; have K13 := n13_; clear n13_; have K15 := n15_; clear n15_; generalize w9.heap.size = g15 at K15 ⊢; have b0 : w10.cell? ⟨gb, 0, none⟩ = some (.slice AP L.posts.length cP) := (blk_cell BK.out 0).trans rfl; have b1 : w10.cell? ⟨gb, 1, none⟩ = some (.slice AQ L.pols.length cQ) := (blk_cell BK.out 1).trans rfl; have b2 : w10.cell? ⟨gb, 2, none⟩ = some (.int .u64 L.next) := (blk_cell BK.out 2).trans rfl; have b3 : w10.cell? ⟨gb, 3, none⟩ = some (.int .u64 L.cur) := (blk_cell BK.out 3).trans rfl; have hz := blk_lt BK.out)
    | (go_at_call 38; (with_reducible refine (F38.out _ ?sb).mono ?_); (case sb => exact (by repeat (first | (with_reducible first | exact HB.out | apply below_alloc | apply pw_below_drewN | apply below_drew1 | apply below_drew) | exact HB.out))); rintro e w11 ⟨rfl, hb⟩; have nB_ : Aside0 (Below w.heap.size w w11) := ⟨(show Below w.heap.size w _ from (by repeat (first | (with_reducible first | exact HB.out | apply below_alloc | apply pw_below_drewN | apply below_drew1 | apply below_drew) | exact HB.out))).trans (hb.mono (below_size (by repeat (first | (with_reducible first | exact HB.out | apply below_alloc | apply pw_below_drewN | apply below_drew1 | apply below_drew) | exact HB.out))))⟩; have nK_ : Aside0 (w11.heap[gb]? = some (.cells #[.slice AP L.posts.length cP, .slice AQ L.pols.length cQ, .int .u64 L.next, .int .u64 L.cur] 58)) := ⟨blk_below (by (with_reducible repeat (first | refine blk_drewN ?_ _ | refine blk_drew ?_ | refine blk_alloc ?_ _)); exact BK.out) hb⟩; have n9_ : Aside0 (w11.heap[g9]? = some (.cells #[.int .u64 i1, .int .u64 v1, .string x1] 42)) := ⟨blk_below (by (with_reducible repeat (first | refine blk_drewN ?_ _ | refine blk_drew ?_ | refine blk_alloc ?_ _)); exact K9.out) hb⟩; have n11_ : Aside0 (w11.heap[g11]? = some (.cells #[.int .u64 i1, .int .u64 v1, .string x1] 42)) := ⟨blk_below (by (with_reducible repeat (first | refine blk_drewN ?_ _ | refine blk_drew ?_ | refine blk_alloc ?_ _)); exact K11.out) hb⟩; have n13_ : Aside0 (w11.heap[g13]? = some (.cells #[.int .u64 i2, .int .u64 v2, .string x2] 42)) := ⟨blk_below (by (with_reducible repeat (first | refine blk_drewN ?_ _ | refine blk_drew ?_ | refine blk_alloc ?_ _)); exact K13.out) hb⟩; have n15_ : Aside0 (w11.heap[g15]? = some (.cells #[.int .u64 i2, .int .u64 v2, .string x2] 42)) := ⟨blk_below (by (with_reducible repeat (first | refine blk_drewN ?_ _ | refine blk_drew ?_ | refine blk_alloc ?_ _)); exact K15.out) hb⟩; clear HB BK b0 b1 b2 b3 hz hb; have HB := nB_; have BK := nK_; clear nB_ nK_; clear K9; have K9 := n9_; clear n9_; clear K11; have K11 := n11_; clear n11_; clear K13; have K13 := n13_; clear n13_; clear K15; have K15 := n15_; clear n15_; have b0 : w11.cell? ⟨gb, 0, none⟩ = some (.slice AP L.posts.length cP) := (blk_cell BK.out 0).trans rfl; have b1 : w11.cell? ⟨gb, 1, none⟩ = some (.slice AQ L.pols.length cQ) := (blk_cell BK.out 1).trans rfl; have b2 : w11.cell? ⟨gb, 2, none⟩ = some (.int .u64 L.next) := (blk_cell BK.out 2).trans rfl; have b3 : w11.cell? ⟨gb, 3, none⟩ = some (.int .u64 L.cur) := (blk_cell BK.out 3).trans rfl; have hz := blk_lt BK.out))
  have HSZ := Aside0.mk HB.out.size
  have HSa := Aside0.mk (show ∀ W, Below w11.heap.size w11 W → (W.cell? ⟨g9, 0, none⟩ = some (.int .u64 i1) ∧ W.cell? ⟨g9, 1, none⟩ = some (.int .u64 v1) ∧ W.cell? ⟨g9, 2, none⟩ = some (.string x1) ∧ W.cell? ⟨g11, 0, none⟩ = some (.int .u64 i1) ∧ W.cell? ⟨g11, 1, none⟩ = some (.int .u64 v1) ∧ W.cell? ⟨g11, 2, none⟩ = some (.string x1) ∧ W.cell? ⟨g13, 0, none⟩ = some (.int .u64 i2) ∧ W.cell? ⟨g13, 1, none⟩ = some (.int .u64 v2) ∧ W.cell? ⟨g13, 2, none⟩ = some (.string x2) ∧ W.cell? ⟨g15, 0, none⟩ = some (.int .u64 i2) ∧ W.cell? ⟨g15, 1, none⟩ = some (.int .u64 v2) ∧ W.cell? ⟨g15, 2, none⟩ = some (.string x2) ∧ W.cell? ⟨gb, 0, none⟩ = some (.slice AP L.posts.length cP) ∧ W.cell? ⟨gb, 1, none⟩ = some (.slice AQ L.pols.length cQ) ∧ W.cell? ⟨gb, 2, none⟩ = some (.int .u64 L.next) ∧ W.cell? ⟨gb, 3, none⟩ = some (.int .u64 L.cur)) from fun W hW => ⟨(blk_cell (blk_below K9.out hW) 0).trans rfl, (blk_cell (blk_below K9.out hW) 1).trans rfl, (blk_cell (blk_below K9.out hW) 2).trans rfl, (blk_cell (blk_below K11.out hW) 0).trans rfl, (blk_cell (blk_below K11.out hW) 1).trans rfl, (blk_cell (blk_below K11.out hW) 2).trans rfl, (blk_cell (blk_below K13.out hW) 0).trans rfl, (blk_cell (blk_below K13.out hW) 1).trans rfl, (blk_cell (blk_below K13.out hW) 2).trans rfl, (blk_cell (blk_below K15.out hW) 0).trans rfl, (blk_cell (blk_below K15.out hW) 1).trans rfl, (blk_cell (blk_below K15.out hW) 2).trans rfl, (blk_cell (blk_below BK.out hW) 0).trans rfl, (blk_cell (blk_below BK.out hW) 1).trans rfl, (blk_cell (blk_below BK.out hW) 2).trans rfl, (blk_cell (blk_below BK.out hW) 3).trans rfl⟩)
  have HBc := Aside0.mk (Below.refl w11.heap.size w11)
  clear b0 b1 b2 b3 hz K9 K11 K13 K15
  go_region_held3 (fun W => W.cell? ⟨g9, 0, none⟩ = some (.int .u64 i1) ∧ W.cell? ⟨g9, 1, none⟩ = some (.int .u64 v1) ∧ W.cell? ⟨g9, 2, none⟩ = some (.string x1) ∧ W.cell? ⟨g11, 0, none⟩ = some (.int .u64 i1) ∧ W.cell? ⟨g11, 1, none⟩ = some (.int .u64 v1) ∧ W.cell? ⟨g11, 2, none⟩ = some (.string x1) ∧ W.cell? ⟨g13, 0, none⟩ = some (.int .u64 i2) ∧ W.cell? ⟨g13, 1, none⟩ = some (.int .u64 v2) ∧ W.cell? ⟨g13, 2, none⟩ = some (.string x2) ∧ W.cell? ⟨g15, 0, none⟩ = some (.int .u64 i2) ∧ W.cell? ⟨g15, 1, none⟩ = some (.int .u64 v2) ∧ W.cell? ⟨g15, 2, none⟩ = some (.string x2) ∧ W.cell? ⟨gb, 0, none⟩ = some (.slice AP L.posts.length cP) ∧ W.cell? ⟨gb, 1, none⟩ = some (.slice AQ L.pols.length cQ) ∧ W.cell? ⟨gb, 2, none⟩ = some (.int .u64 L.next) ∧ W.cell? ⟨gb, 3, none⟩ = some (.int .u64 L.cur)) ((refine HSa.out _ ?_; repeat (first | exact HBc.out | exact Below.refl _ _ | apply below_drew1 | apply pw_below_drewN | apply below_alloc))) (first
    | (go_at_call 13; (with_reducible refine (F13.out _ ?sb).mono ?_); (all_goals (try (case sb => exact HB.out.trans ((show Below w11.heap.size w11 _ from (by repeat (first | exact HBc.out | exact Below.refl _ _ | apply below_drew1 | apply pw_below_drewN | apply below_alloc))).mono HSZ.out)))); rintro e w12 ⟨rfl, hb⟩; have n0_ : Aside0 (Below w11.heap.size w11 w12) := ⟨(show Below w11.heap.size w11 _ from (by repeat (first | exact HBc.out | exact Below.refl _ _ | apply below_drew1 | apply pw_below_drewN | apply below_alloc))).trans (hb.mono (below_size (show Below w11.heap.size w11 _ from (by repeat (first | exact HBc.out | exact Below.refl _ _ | apply below_drew1 | apply pw_below_drewN | apply below_alloc)))))⟩; clear HBc; have HBc := n0_; clear n0_ hb)
    | (go_at_call 39; (with_reducible refine (F39.out _ ?sb).mono ?_); (all_goals (try (case sb => exact HB.out.trans ((show Below w11.heap.size w11 _ from (by repeat (first | exact HBc.out | exact Below.refl _ _ | apply below_drew1 | apply pw_below_drewN | apply below_alloc))).mono HSZ.out)))); rintro e w13 ⟨rfl, hb⟩; have n0_ : Aside0 (Below w11.heap.size w11 w13) := ⟨(show Below w11.heap.size w11 _ from (by repeat (first | exact HBc.out | exact Below.refl _ _ | apply below_drew1 | apply pw_below_drewN | apply below_alloc))).trans (hb.mono (below_size (show Below w11.heap.size w11 _ from (by repeat (first | exact HBc.out | exact Below.refl _ _ | apply below_drew1 | apply pw_below_drewN | apply below_alloc)))))⟩; clear HBc; have HBc := n0_; clear n0_ hb)
    | (go_at_call 14; (with_reducible refine (F14.out _ ?sb).mono ?_); (all_goals (try (case sb => exact HB.out.trans ((show Below w11.heap.size w11 _ from (by repeat (first | exact HBc.out | exact Below.refl _ _ | apply below_drew1 | apply pw_below_drewN | apply below_alloc))).mono HSZ.out)))); rintro e w14 ⟨A1, c1, rfl, hl1, hC1, hb⟩; have n0_ : Aside0 (Below w11.heap.size w11 w14) := ⟨(show Below w11.heap.size w11 _ from (by repeat (first | exact HBc.out | exact Below.refl _ _ | apply below_drew1 | apply pw_below_drewN | apply below_alloc))).trans (hb.mono (below_size (show Below w11.heap.size w11 _ from (by repeat (first | exact HBc.out | exact Below.refl _ _ | apply below_drew1 | apply pw_below_drewN | apply below_alloc)))))⟩; have HL1 := Aside0.mk hl1; have HC1 := Aside0.mk hC1; clear hl1 hC1; clear HBc; have HBc := n0_; clear n0_ hb)
    | (go_at_call 41; (with_reducible refine (F41.out _ ?sb).mono ?_); (all_goals (try (case sb => exact HB.out.trans ((show Below w11.heap.size w11 _ from (by repeat (first | exact HBc.out | exact Below.refl _ _ | apply below_drew1 | apply pw_below_drewN | apply below_alloc))).mono HSZ.out)))); rintro e w15 ⟨A2, c2, rfl, hl2, hC2, hb⟩; have n0_ : Aside0 (Below w11.heap.size w11 w15) := ⟨(show Below w11.heap.size w11 _ from (by repeat (first | exact HBc.out | exact Below.refl _ _ | apply below_drew1 | apply pw_below_drewN | apply below_alloc))).trans (hb.mono (below_size (show Below w11.heap.size w11 _ from (by repeat (first | exact HBc.out | exact Below.refl _ _ | apply below_drew1 | apply pw_below_drewN | apply below_alloc)))))⟩; have HL2 := Aside0.mk hl2; have HC2 := Aside0.mk hC2; have n3_ : Aside0 (Kd.C (Kd.int .u64) w15 A1 ls.length ls) := ⟨Kd.C_below (Kd.C_below HC1.out (show Below w14.heap.size w14 _ from (by repeat (first | exact Below.refl _ _ | apply below_drew1 | apply pw_below_drewN | apply below_alloc)))) hb⟩; clear hl2 hC2 HC1; have HC1 := n3_; clear n3_; clear HBc; have HBc := n0_; clear n0_ hb)
    | (go_at_call 40; (with_reducible refine (F40.out _ A1 c1 A2 c2 HL1.out ?s1 HL2.out ?s2).mono ?_); (case s1 => exact Kd.C_below HC1.out (show Below w15.heap.size w15 _ from (by repeat (first | exact Below.refl _ _ | apply below_drew1 | apply pw_below_drewN | apply below_alloc)))); (case s2 => exact Kd.C_below HC2.out (show Below w15.heap.size w15 _ from (by repeat (first | exact Below.refl _ _ | apply below_drew1 | apply pw_below_drewN | apply below_alloc)))); rintro e w16 ⟨rfl, hb⟩; have n0_ : Aside0 (Below w11.heap.size w11 w16) := ⟨(show Below w11.heap.size w11 _ from (by repeat (first | exact HBc.out | exact Below.refl _ _ | apply below_drew1 | apply pw_below_drewN | apply below_alloc))).trans (hb.mono (below_size (show Below w11.heap.size w11 _ from (by repeat (first | exact HBc.out | exact Below.refl _ _ | apply below_drew1 | apply pw_below_drewN | apply below_alloc)))))⟩; clear HBc; have HBc := n0_; clear n0_ hb)
    | (go_at_call 9; (with_reducible refine (F9.out _ ?sb).mono ?_); (all_goals (try (case sb => exact HB.out.trans ((show Below w11.heap.size w11 _ from (by repeat (first | exact HBc.out | exact Below.refl _ _ | apply below_drew1 | apply pw_below_drewN | apply below_alloc))).mono HSZ.out)))); rintro e w17 ⟨u1, B1, rfl, hP1, hb⟩; have n0_ : Aside0 (Below w11.heap.size w11 w17) := ⟨(show Below w11.heap.size w11 _ from (by repeat (first | exact HBc.out | exact Below.refl _ _ | apply below_drew1 | apply pw_below_drewN | apply below_alloc))).trans (hb.mono (below_size (show Below w11.heap.size w11 _ from (by repeat (first | exact HBc.out | exact Below.refl _ _ | apply below_drew1 | apply pw_below_drewN | apply below_alloc)))))⟩; have HP1 := Aside0.mk hP1; clear hP1; clear HBc; have HBc := n0_; clear n0_ hb)
    | (go_at_call 42; (with_reducible refine (F42.out _ ?sb).mono ?_); (all_goals (try (case sb => exact HB.out.trans ((show Below w11.heap.size w11 _ from (by repeat (first | exact HBc.out | exact Below.refl _ _ | apply below_drew1 | apply pw_below_drewN | apply below_alloc))).mono HSZ.out)))); rintro e w18 ⟨u2, B2, rfl, hP2, hb⟩; have n0_ : Aside0 (Below w11.heap.size w11 w18) := ⟨(show Below w11.heap.size w11 _ from (by repeat (first | exact HBc.out | exact Below.refl _ _ | apply below_drew1 | apply pw_below_drewN | apply below_alloc))).trans (hb.mono (below_size (show Below w11.heap.size w11 _ from (by repeat (first | exact HBc.out | exact Below.refl _ _ | apply below_drew1 | apply pw_below_drewN | apply below_alloc)))))⟩; have HP2 := Aside0.mk hP2; have n3_ : Aside0 (PRow w18 B1 u1 pr) := ⟨PRow.below (PRow.below HP1.out (show Below w17.heap.size w17 _ from (by repeat (first | exact Below.refl _ _ | apply below_drew1 | apply pw_below_drewN | apply below_alloc)))) hb⟩; clear hP2 HP1; have HP1 := n3_; clear n3_; clear HBc; have HBc := n0_; clear n0_ hb)
    | (go_at_call 12; (with_reducible refine (F12.out _ u1 u2 B1 B2 ?s1 ?s2).mono ?_); (case s1 => exact PRow.below HP1.out (show Below w18.heap.size w18 _ from (by repeat (first | exact Below.refl _ _ | apply below_drew1 | apply pw_below_drewN | apply below_alloc)))); (case s2 => exact PRow.below HP2.out (show Below w18.heap.size w18 _ from (by repeat (first | exact Below.refl _ _ | apply below_drew1 | apply pw_below_drewN | apply below_alloc)))); rintro e w19 ⟨rfl, hb⟩; have n0_ : Aside0 (Below w11.heap.size w11 w19) := ⟨(show Below w11.heap.size w11 _ from (by repeat (first | exact HBc.out | exact Below.refl _ _ | apply below_drew1 | apply pw_below_drewN | apply below_alloc))).trans (hb.mono (below_size (show Below w11.heap.size w11 _ from (by repeat (first | exact HBc.out | exact Below.refl _ _ | apply below_drew1 | apply pw_below_drewN | apply below_alloc)))))⟩; clear HBc; have HBc := n0_; clear n0_ hb))
  go_wp2
  go_ret
  exact ⟨rfl, HB.out.trans (HBc.out.mono HSZ.out)⟩
end Go.Proofs.Ytjfkenjmjoncbaa.Lg

end

section
namespace Go.Proofs.Ytjfkenjmjoncbaa.Lg
open Go Go.Maps Go.WideShapes Go.RowKit Go.Proofs.Ytjfkenjmjoncbaa.PAll Go.Proofs.YtjfkenjmjoncbaaW.PrintWords Go.Proofs.YtjfkenjmjoncbaaW.PrintLast Go.Proofs.YtjfkenjmjoncbaaW.PrintMore
set_option linter.unusedVariables false
set_option linter.unusedSimpArgs false

def LA1 : LG := ⟨[], [⟨#[112]⟩], 1, 0⟩
def LA2 : LG := ⟨[⟨1, 1, ⟨#[120]⟩⟩], [⟨#[112]⟩], 2, 0⟩
def LA3 : LG := ⟨[⟨1, 1, ⟨#[120]⟩⟩], [⟨#[112]⟩, ⟨#[113]⟩], 2, 0⟩
def LA4 : LG := ⟨[⟨1, 2, ⟨#[121]⟩⟩], [⟨#[112]⟩, ⟨#[113]⟩], 2, 1⟩
section
variable {w : World} {B g b n : Nat} {v : Value}
theorem al1 (h : Led w B g b n v LG.empty) (hB : B ≤ w.heap.size) (hn : n < maxLen) :
    Calls Try.prog 10 #[.pointer (some ⟨g, 0, none⟩), .agg #[.int .i64 3, .int .u64 0, .int .u64 1, .string ⟨#[112]⟩]] w fun e w' => e = .returned (.int .i64 0) ∧ Did w w' B g b (n + 1) v LA1 := by
  have := Apply_calls h hB hn ⟨3, 0, 1, ⟨#[112]⟩⟩ ⟨by decide, by decide, by decide⟩
  rwa [show LG.errno LG.empty ⟨3, 0, 1, ⟨#[112]⟩⟩ = 0 by decide, show LG.apply LG.empty ⟨3, 0, 1, ⟨#[112]⟩⟩ = LA1 by kernel_rfl] at this
theorem al2 (h : Led w B g b n v LA1) (hB : B ≤ w.heap.size) (hn : n < maxLen) :
    Calls Try.prog 10 #[.pointer (some ⟨g, 0, none⟩), .agg #[.int .i64 1, .int .u64 1, .int .u64 1, .string ⟨#[120]⟩]] w fun e w' => e = .returned (.int .i64 0) ∧ Did w w' B g b (n + 1) v LA2 := by
  have := Apply_calls h hB hn ⟨1, 1, 1, ⟨#[120]⟩⟩ ⟨by decide, by decide, by decide⟩
  rwa [show LG.errno LA1 ⟨1, 1, 1, ⟨#[120]⟩⟩ = 0 by decide, show LG.apply LA1 ⟨1, 1, 1, ⟨#[120]⟩⟩ = LA2 by kernel_rfl] at this
theorem al3 (h : Led w B g b n v LA2) (hB : B ≤ w.heap.size) (hn : n < maxLen) :
    Calls Try.prog 10 #[.pointer (some ⟨g, 0, none⟩), .agg #[.int .i64 3, .int .u64 0, .int .u64 2, .string ⟨#[113]⟩]] w fun e w' => e = .returned (.int .i64 0) ∧ Did w w' B g b (n + 1) v LA3 := by
  have := Apply_calls h hB hn ⟨3, 0, 2, ⟨#[113]⟩⟩ ⟨by decide, by decide, by decide⟩
  rwa [show LG.errno LA2 ⟨3, 0, 2, ⟨#[113]⟩⟩ = 0 by decide, show LG.apply LA2 ⟨3, 0, 2, ⟨#[113]⟩⟩ = LA3 by kernel_rfl] at this
theorem al4 (h : Led w B g b n v LA3) (hB : B ≤ w.heap.size) (hn : n < maxLen) :
    Calls Try.prog 10 #[.pointer (some ⟨g, 0, none⟩), .agg #[.int .i64 4, .int .u64 1, .int .u64 2, .string ⟨#[121]⟩]] w fun e w' => e = .returned (.int .i64 0) ∧ Did w w' B g b (n + 1) v LA4 := by
  have := Apply_calls h hB hn ⟨4, 1, 2, ⟨#[121]⟩⟩ ⟨by decide, by decide, by decide⟩
  rwa [show LG.errno LA3 ⟨4, 1, 2, ⟨#[121]⟩⟩ = 0 by decide, show LG.apply LA3 ⟨4, 1, 2, ⟨#[121]⟩⟩ = LA4 by kernel_rfl] at this
theorem alS (h : Led w B g b n v LA3) : Calls Try.prog 16 #[.pointer (some ⟨g, 0, none⟩)] w fun e w' => e = .returned (.tuple #[.agg #[.int .u64 1, .int .u64 1, .string ⟨#[120]⟩], .bool true]) ∧ Below w.heap.size w w' := by
  have := Stale_calls h
  rwa [show postV LA3.staleP = .agg #[.int .u64 1, .int .u64 1, .string ⟨#[120]⟩] by kernel_rfl, show LA3.stale.isSome = true by decide] at this
theorem alG (h : Led w B g b n v LA4) : Calls Try.prog 15 #[.pointer (some ⟨g, 0, none⟩), .int .u64 1] w fun e w' => e = .returned (.tuple #[.agg #[.int .u64 1, .int .u64 2, .string ⟨#[121]⟩], .bool true]) ∧ Below w.heap.size w w' := by
  have := Get_calls h (id := 1) (by decide)
  rwa [show postV (LA4.get 1) = .agg #[.int .u64 1, .int .u64 2, .string ⟨#[121]⟩] by kernel_rfl, show LA4.is 1 = true by decide] at this
theorem alP (h : Led w B g b n v LA4) : Calls Try.prog 22 #[.pointer (some ⟨g, 0, none⟩), .int .u64 2] w fun e w' => e = .returned (.tuple #[.string ⟨#[113]⟩, .bool true]) ∧ w' = w := by
  have := Policy_calls h (id := 2) (by decide)
  rwa [show LA4.pol 2 = ⟨#[113]⟩ by kernel_rfl, show decide (¬ ((2 : Int) < 1 ∨ LA4.newest < 2)) = true by decide] at this
theorem alT (h : Led w B g b n v LA4) : Calls Try.prog 13 #[.pointer (some ⟨g, 0, none⟩)] w fun e w' => e = .returned (.agg #[.int .u64 2, .int .u64 2, .int .i64 1, .int .u64 1]) ∧ Below w.heap.size w w' := Status_calls h
theorem alR (h : Led w B g b n v LA4) (hn : n ≤ 1000000) : Calls Try.prog 9 #[.pointer (some ⟨g, 0, none⟩)] w fun e w' => ∃ A c, e = .returned (.slice A 4 c) ∧ Below w.heap.size w w' :=
  (Pairs_calls h hn).mono fun e w' ⟨u, B1, he, _, hp, hb⟩ => by
    obtain ⟨A, c, hs⟩ := Kd.N_slice hp
    have e4 : (LG.pairsS LA4).length = 4 := by kernel_rfl
    rw [e4] at hs
    exact ⟨A, c, by rw [he, hs], hb⟩
end
set_option maxHeartbeats 4000000 in
set_option maxRecDepth 100000 in
theorem alive_calls (w : World) : Calls Try.prog 11 #[] w fun e w' => e = .returned (.bool true) ∧ Below w.heap.size w w' := by
  go_enter Try.func11, Try.ntmps11
  go_wp2_with (first
    | (go_at_call 23; refine (New_calls _).mono ?_; rintro e w1 ⟨g, b, rfl, hL, hb⟩; have H0 := Aside0.mk hL; have B0 := Aside0.mk hb; clear hL hb)
    | (go_at_call 10; (with_reducible refine (al1 H0.out B0.out.size (by unfold maxLen; omega)).mono ?_); rintro e w2 ⟨rfl, ⟨v2, hL, _⟩, hm⟩; have H1 := Aside0.mk hL; have B1 := Aside0.mk (mv_below B0.out hm (fun j hj => (H0.out.lt hj).1) B0.out.size); clear hL hm)
    | (go_at_call 10; (with_reducible refine (al2 H1.out B1.out.size (by unfold maxLen; omega)).mono ?_); rintro e w3 ⟨rfl, ⟨v3, hL, _⟩, hm⟩; have H2 := Aside0.mk hL; have B2 := Aside0.mk (mv_below B1.out hm (fun j hj => (H1.out.lt hj).1) B1.out.size); clear hL hm)
    | (go_at_call 10; (with_reducible refine (al3 H2.out B2.out.size (by unfold maxLen; omega)).mono ?_); rintro e w4 ⟨rfl, ⟨v4, hL, _⟩, hm⟩; have H3 := Aside0.mk hL; have B3 := Aside0.mk (mv_below B2.out hm (fun j hj => (H2.out.lt hj).1) B2.out.size); clear hL hm)
    | (go_at_call 16; (with_reducible refine (alS H3.out).mono ?_); rintro e w5 ⟨rfl, hb⟩; have H4 := Aside0.mk ((H3.out.below hb).below (below_alloc (Below.refl _ _) (.cells #[.int .u64 1, .int .u64 1, .string ⟨#[120]⟩] 42))); have B4 := Aside0.mk (below_alloc (B3.out.trans (hb.mono B3.out.size)) (.cells #[.int .u64 1, .int .u64 1, .string ⟨#[120]⟩] 42)); have K5 := Aside0.mk (blk_new w5 (.cells #[.int .u64 1, .int .u64 1, .string ⟨#[120]⟩] 42)); have X5 := Aside0.mk (fun j (hj : Owns g b v4 j) => ((H3.out.below hb).lt hj).2); clear hb)
    | (go_at_call 10; (with_reducible refine (al4 H4.out B4.out.size (by unfold maxLen; omega)).mono ?_); rintro e w6 ⟨rfl, ⟨v6, hL, _⟩, hm⟩; have H5 := Aside0.mk hL; have B5 := Aside0.mk (mv_below B4.out hm (fun j hj => (H4.out.lt hj).1) B4.out.size); have K6 := Aside0.mk ((hm.block _ (blk_lt K5.out) (fun hj => by have := X5.out _ hj; omega)).trans K5.out); clear hL hm)
    | (go_at_call 15; (with_reducible refine (alG H5.out).mono ?_); rintro e w7 ⟨rfl, hb⟩; have H6 := Aside0.mk ((H5.out.below hb).below (below_alloc (Below.refl _ _) (.cells #[.int .u64 1, .int .u64 2, .string ⟨#[121]⟩] 42))); have B6 := Aside0.mk (below_alloc (B5.out.trans (hb.mono B5.out.size)) (.cells #[.int .u64 1, .int .u64 2, .string ⟨#[121]⟩] 42)); have K7 := blk_below K6.out hb; have z5 : w7.cell? ⟨w5.heap.size, 0, none⟩ = some (.int .u64 1) := (blk_cell K7 0).trans rfl; have h57 := blk_lt K7; clear hb K7)
    | (go_at_call 22; (with_reducible refine (alP H6.out).mono ?_); rintro e w8 ⟨rfl, rfl⟩)
    | (go_at_call 13; (with_reducible refine (alT H6.out).mono ?_); rintro e w9 ⟨rfl, hb⟩; have H7 := Aside0.mk (H6.out.below hb); have B7 := Aside0.mk (B6.out.trans (hb.mono B6.out.size)); clear hb)
    | (go_at_call 9; (with_reducible refine (alR H7.out (by omega)).mono ?_); rintro e w10 ⟨A, c, rfl, hb⟩; have B8 := Aside0.mk (B7.out.trans (hb.mono B7.out.size)); clear hb))
  go_ret
  exact ⟨rfl, B8.out⟩
end Go.Proofs.Ytjfkenjmjoncbaa.Lg

end

section
namespace Go.Proofs.Ytjfkenjmjoncbaa.RowOpen
open Go.RowKit Go.Proofs.YtjfkenjmjoncbaaW.PrintWords

section
variable {P : Program}
def Opens (P : Program) {α : Type} (t : TypeId) (d : Kd α) (g : α → Prop) : Prop :=
  ∀ (H : Type) (enc : TypeId × Value → H) (fuel : Nat) (w : World) (cs : List Value) (x : DataW H × List MemPlace), DataW.trod enc P w 0 (fun _ => true) true fuel t cs = some x → ∃ a, d.K w a cs ∧ g a
theorem Opens.imp {α : Type} {t : TypeId} {d : Kd α} {g g' : α → Prop} (h : Opens P t d g) (hg : ∀ a, g a → g' a) : Opens P t d g' := fun H enc fuel w cs x hx => by
  obtain ⟨a, hK, ha⟩ := h H enc fuel w cs x hx
  exact ⟨a, hK, hg a ha⟩
theorem opens_int {t : TypeId} {k : IntKind} (hu : P.underlying t = some (.int k)) : Opens P t (Kd.int k) (fun n => (Lit.int k n).wf = true) := fun H enc fuel w cs x hx => by
  cases fuel with
  | zero => simp [DataW.trod] at hx
  | succ m =>
    unfold DataW.trod at hx
    rw [hu] at hx
    split at hx <;> simp_all
    obtain ⟨⟨rfl, hw⟩, _⟩ := hx
    exact ⟨_, rfl, hw⟩
theorem cells_get {w : World} {a : Addr} {n : Nat} {cs : List Value} (h : w.cells? 0 a n = some cs) : cs.length = n ∧ ∀ j u, cs[j]? = some u → w.cell? (a.add j) = some u := by
  unfold World.cells? at h
  rw [if_pos (Nat.zero_le _)] at h
  have hl := mapM_some_length h
  rw [List.length_range] at hl
  refine ⟨hl, fun j u hj => ?_⟩
  have hlt : j < cs.length := (List.getElem?_eq_some_iff.1 hj).1
  have := mapM_some_get h j j (by rw [List.getElem?_range (by omega)])
  rw [this, hj]
theorem list_of {α : Type} {p : Nat → α → Prop} : ∀ n : Nat, (∀ i, i < n → ∃ a, p i a) → ∃ xs : List α, xs.length = n ∧ ∀ i a, xs[i]? = some a → p i a
  | 0, _ => ⟨[], rfl, fun i a h => by simp at h⟩
  | n + 1, h => by
    obtain ⟨xs, hl, hx⟩ := list_of n (fun i hi => h i (by omega))
    obtain ⟨a, ha⟩ := h n (by omega)
    refine ⟨xs ++ [a], by simp [hl], fun i b hb => ?_⟩
    rcases Nat.lt_trichotomy i n with hi | hi | hi
    · rw [List.getElem?_append_left (by omega)] at hb
      exact hx i b hb
    · subst hi
      rw [List.getElem?_append_right (by omega), hl, Nat.sub_self] at hb
      simp at hb
      subst hb
      exact ha
    · rw [List.getElem?_eq_none (by simp; omega)] at hb
      cases hb
theorem opens_slice {α : Type} {t e : TypeId} {d : Kd α} {g : α → Prop} (hu : P.underlying t = some (.slice e)) (hsz : P.cellsOf e = d.sz) (h : Opens P e d g) :
    Opens P t (Kd.slice e d) (fun xs => xs.length ≤ maxLen ∧ ∀ x ∈ xs, g x) := fun H enc fuel w cs x hx => by
  rcases Go.Deep.open_slice hu hx with ⟨rfl, _⟩ | ⟨a, len, cap, m, n, D, Pl, rfl, _, hl, hm, hmm, _, hel⟩
  · exact ⟨[], ⟨none, 0, rfl, Nat.le_refl _, rfl, by simp, fun h => absurd h (by simp)⟩, by simp, by simp⟩
  · rw [if_pos rfl] at hmm
    subst hmm
    obtain ⟨xs, hxl, hxs⟩ := list_of (p := fun i y => ∃ c, w.cells? 0 (a.add (i * d.sz)) d.sz = some c ∧ d.K w y c ∧ g y) len (fun i hi => by
      obtain ⟨c, hc, ht⟩ := hel i (by omega)
      rw [hsz] at hc
      obtain ⟨y, hK, hg⟩ := h H enc n w c _ ht
      exact ⟨y, c, hc, hK, hg⟩)
    subst hxl
    refine ⟨xs, ⟨some a, m, rfl, hl, rfl, ?_, fun _ => ⟨a, rfl, fun j p hp => ?_⟩⟩, by omega, fun y hy => ?_⟩
    · unfold maxLen at hm; omega
    · obtain ⟨c, hc, hK, _⟩ := hxs j p hp
      obtain ⟨hcl, hcg⟩ := cells_get hc
      exact ⟨c, hcl, hK, fun i u hu' => by rw [← Addr.add_add]; exact hcg i u hu'⟩
    · obtain ⟨j, hj⟩ := List.getElem?_of_mem hy
      obtain ⟨c, _, _, hg⟩ := hxs j y hj
      exact hg
def OpensF (P : Program) {α : Type} (fs : List Field) (d : Kd α) (g : α → Prop) (off : Nat) : Prop :=
  ∀ (H : Type) (enc : TypeId × Value → H) (fuel : Nat) (w : World) (cs : List Value) (xs : List (DataW H × List MemPlace)), cs.length = off + d.sz →
    (∀ (i : Nat) (f : Field), fs[i]? = some f → DataW.trod enc P w 0 (fun _ => true) true fuel f.type ((cs.drop f.offset).take (P.cellsOf f.type)) = xs[i]?) → xs.length = fs.length → ∃ a, d.K w a (cs.drop off) ∧ g a
theorem opensF_one {α : Type} {f : Field} {d : Kd α} {g : α → Prop} {off : Nat} (ho : f.offset = off) (hsz : P.cellsOf f.type = d.sz) (h : Opens P f.type d g) : OpensF P [f] d g off := fun H enc fuel w cs xs hl hx hn => by
  have h0 := hx 0 f rfl
  match xs, hn with
  | [x], _ =>
    rw [ho, hsz, List.take_of_length_le (by rw [List.length_drop]; omega)] at h0
    exact h H enc fuel w _ x h0
theorem opensF_cons {α β : Type} {f : Field} {fs : List Field} {d : Kd α} {d' : Kd β} {g : α → Prop} {g' : β → Prop} {off : Nat} (ho : f.offset = off) (hsz : P.cellsOf f.type = d.sz) (h : Opens P f.type d g) (hf : OpensF P fs d' g' (off + d.sz)) :
    OpensF P (f :: fs) (Kd.pair d d') (fun x => g x.1 ∧ g' x.2) off := fun H enc fuel w cs xs hl hx hn => by
  match xs, hn with
  | x :: xs, hn =>
    have h0 := hx 0 f rfl
    rw [ho, hsz] at h0
    obtain ⟨a, hK, hg⟩ := h H enc fuel w _ x h0
    have hl' : cs.length = off + (d.sz + d'.sz) := hl
    obtain ⟨b, hK', hg'⟩ := hf H enc fuel w cs xs (by omega) (fun i q hq => hx (i + 1) q hq) (by simpa using hn)
    refine ⟨(a, b), ⟨(cs.drop off).take d.sz, cs.drop (off + d.sz), ?_, hK, hK'⟩, hg, hg'⟩
    rw [← List.drop_drop, List.take_append_drop]
theorem opens_struct {α : Type} {t : TypeId} {fs : Array Field} {d : Kd α} {g : α → Prop} (hu : P.underlying t = some (.struct fs)) (hsz : P.cellsOf t = d.sz) (hf : OpensF P fs.toList d g 0) : Opens P t d g := fun H enc fuel w cs x hx => by
  obtain ⟨xs, m, rfl, _, hl, hlen, hel⟩ := DataW.trod_struct hu hx
  obtain ⟨a, hK, hg⟩ := hf H enc m w cs xs (by omega) (fun i f hi => hel i f (by rw [← Array.getElem?_toList]; exact hi)) (by simpa using hlen)
  exact ⟨a, hK, hg⟩
theorem opens_iso {α β : Type} {t : TypeId} {d : Kd α} {g : α → Prop} {f : β → α} (inv : α → β) (hi : ∀ x, f (inv x) = x) (h : Opens P t d g) : Opens P t (Kd.iso d f) (fun y => g (f y)) := fun H enc fuel w cs x hx => by
  obtain ⟨a, hK, hg⟩ := h H enc fuel w cs x hx
  refine ⟨inv a, ?_, by show g (f (inv a)); rw [hi]; exact hg⟩
  show d.K w (f (inv a)) cs
  rw [hi]
  exact hK
end
end Go.Proofs.Ytjfkenjmjoncbaa.RowOpen

end

section
namespace Go.Proofs.Ytjfkenjmjoncbaa.Lg
open Go Go.Maps Go.WideShapes Go.RowKit Go.Proofs.Ytjfkenjmjoncbaa.PAll Go.Proofs.YtjfkenjmjoncbaaW.PrintWords Go.Proofs.Ytjfkenjmjoncbaa.RowOpen
def GRC (y : RC) : Prop := (Lit.int .i64 y.kind).wf = true ∧ (Lit.int .u64 y.id).wf = true ∧ (Lit.int .u64 y.ver).wf = true ∧ y.text.size ≤ maxLen
def G52 (y : S52) : Prop := (Lit.int .u64 y.f0).wf = true ∧ y.f1.length ≤ maxLen ∧ ∀ b ∈ y.f1, (Lit.int .u8 b).wf = true
theorem o52 : Opens Try.prog 52 k52 G52 := Opens.imp (opens_iso (f := fun x : S52 => (x.f0, x.f1)) (fun x => (⟨x.1, x.2⟩ : S52)) (fun _ => rfl) (opens_struct Try.underlying52 (by kernel_rfl) (opensF_cons rfl (by kernel_rfl) (opens_int Try.underlying24) (opensF_one rfl (by kernel_rfl) (opens_slice Try.underlying50 (by kernel_rfl) (opens_int Try.underlying5)))))) (fun y h => h)
theorem u64_of {x : Int} (h : (Lit.int .u64 x).wf = true) : 0 ≤ x ∧ x ≤ 18446744073709551615 := by
  have e1 : IntKind.u64.min = 0 := by decide
  have e2 : IntKind.u64.max = 18446744073709551615 := by decide
  simpa [Lit.wf, e1, e2] using h
theorem GRC.wf {y : RC} (h : GRC y) : y.Wf := ⟨h.1, u64_of h.2.1, u64_of h.2.2.1⟩
end Go.Proofs.Ytjfkenjmjoncbaa.Lg

end

section
namespace Go.Proofs.Ytjfkenjmjoncbaa.Lg
open Go Go.Maps Go.WideShapes Go.RowKit Go.Proofs.Ytjfkenjmjoncbaa.PAll Go.Proofs.YtjfkenjmjoncbaaW.PrintWords Go.Proofs.YtjfkenjmjoncbaaW.PrintLast Go.Proofs.YtjfkenjmjoncbaaW.PrintMore
set_option linter.unusedVariables false
set_option linter.unusedSimpArgs false

theorem small_loop {l : List S52} (hm : l.length ≤ 50) : ∀ (d i k : Nat), i + d = l.length → d < k → ∃ r, marginalialaw23_small.l0 k l (i : Int) = some r := by
  intro d
  induction d with
  | zero =>
    intro i k hi hk
    obtain ⟨k', rfl⟩ : ∃ k', k = k' + 1 := ⟨k - 1, by omega⟩
    exact ⟨true, by rw [marginalialaw23_small.l0, if_neg (by omega)]⟩
  | succ d ih =>
    intro i k hi hk
    obtain ⟨k', rfl⟩ : ∃ k', k = k' + 1 := ⟨k - 1, by omega⟩
    rw [marginalialaw23_small.l0, if_pos (by omega), if_pos (by omega)]
    split
    · exact ⟨false, rfl⟩
    · rw [show wrap64 ((i : Int) + 1) = ((i + 1 : Nat) : Int) by unfold wrap64; omega]
      exact ih (i + 1) k' (by omega) (by omega)
theorem small_is (l : List S52) : ∃ r, marginalialaw23_small.f (l.length + 1) l = some r ∧ (r = true → l.length ≤ 50) := by
  unfold marginalialaw23_small.f
  by_cases h : (l.length : Int) > 50
  · rw [if_pos h]
    exact ⟨false, rfl, fun e => by cases e⟩
  · rw [if_neg h]
    obtain ⟨r, hr⟩ := small_loop (l := l) (by omega) l.length 0 (l.length + 1) (by omega) (by omega)
    exact ⟨r, hr, fun _ => by omega⟩
set_option maxHeartbeats 4000000 in
set_option maxRecDepth 100000 in
theorem load_true {w : World} {A0 : Option Addr} {c0 : Nat} {ps : List S52} (hC : Kd.C k52 w A0 ps.length ps) (hc : ps.length ≤ c0) (hm : ps.length ≤ maxLen) (hg : ∀ x ∈ ps, G52 x) {id : Int} (hid : (Lit.int .u64 id).wf = true) {nn : Int} (hnn : (Lit.int .i64 nn).wf = true) :
    Calls Try.prog 6 #[.slice A0 ps.length c0, .int .u64 id, .int .i64 nn] w fun e w' => e = .returned (.bool true) ∧ Below w.heap.size w w' := by
  have hid' : 0 ≤ id ∧ id ≤ 18446744073709551615 := by simp [Lit.wf, IntKind.min, IntKind.max, IntKind.bits, IntKind.signed] at hid; omega
  obtain ⟨r, hr, h50⟩ := small_is ps
  have HS := Aside0.mk (marginalialaw23_small.calls _ A0 c0 ps r w hC hc hr)
  cases r with
  | false =>
    clear hC hc hm hg hid hid' hnn hr h50
    go_enter Try.func6, Try.ntmps6
    go_wp2_with (first
      | (go_at_call 19; refine HS.out.mono ?_; rintro e w1 ⟨rfl, hd⟩; have HB1 := Aside0.mk (drawn0_below hd); clear hd)
      | (go_at_call 11; refine (alive_calls _).mono ?_; rintro e w2 ⟨rfl, hb⟩; have HB2 := Aside0.mk (HB1.out.trans (hb.mono HB1.out.size)); clear hb))
    go_ret
    exact ⟨rfl, HB2.out⟩
  | true =>
    have hl := h50 rfl
    have hk : ∀ x ∈ ps, 0 ≤ x.f0 ∧ x.f0 ≤ 18446744073709551615 := fun x hx => by
      have h1 := (hg x hx).1
      simp [Lit.wf, IntKind.min, IntKind.max, IntKind.bits, IntKind.signed] at h1
      omega
    have hb : ∀ x ∈ ps, Bytes x.f1 := fun x hx d hd => by
      have h1 := (hg x hx).2.2 d hd
      simp [Lit.wf, IntKind.min, IntKind.max, IntKind.bits, IntKind.signed] at h1
      omega
    have F17 := Aside0.mk (show ∀ W, Below w.heap.size w W → Calls Try.prog 17 #[.slice A0 ps.length c0] W (LPost W ps.length (loadS ps)) from fun W h => Load_calls (Kd.C_below hC h) hc (by omega) hk hb)
    have F20 := Aside0.mk (show ∀ W, Below w.heap.size w W → Calls Try.prog 20 #[.slice A0 ps.length c0] W (RPost W (loadS ps)) from fun W h => RLoad_calls (Kd.C_below hC h) (by omega) hk hb)
    have HN := Aside0.mk hl
    have HID := Aside0.mk hid'
    have HNN := Aside0.mk hnn
    clear hC hc hm hg hid hid' hnn hr h50 hl hk hb
    generalize loadS ps = X at F17 F20
    cases X with
    | none =>
      go_enter Try.func6, Try.ntmps6
      go_wp2_with (first
        | (go_at_call 19; refine HS.out.mono ?_; rintro e w1 ⟨rfl, hd⟩; have HB1 := Aside0.mk (drawn0_below hd); clear hd)
        | (go_at_call 17; refine (F17.out _ HB1.out).mono ?_; rintro e w2 ⟨rfl, hb⟩; have HB2 := Aside0.mk (HB1.out.trans (hb.mono HB1.out.size)); clear hb)
        | (go_at_call 20; refine (F20.out _ HB2.out).mono ?_; rintro e w3 ⟨rfl, hb⟩; have HB3 := Aside0.mk (HB2.out.trans (hb.mono HB2.out.size)); clear hb)
        | (go_at_call 11; refine (alive_calls _).mono ?_; rintro e w4 ⟨rfl, hb⟩; have HB4 := Aside0.mk ((below_alloc HB3.out _).trans (hb.mono (below_alloc HB3.out _).size)); clear hb))
      go_ret
      exact ⟨rfl, HB4.out⟩
    | some L =>
      have F21 := Aside0.mk (show ∀ (W : World) (B B' g b : Nat) (v vP vQ : Value), Led W B g b ps.length v L → RRows W B' vP vQ L → Calls Try.prog 21 #[.pointer (some ⟨g, 0, none⟩), .agg #[vP, vQ, .int .u64 L.next, .int .u64 L.cur], .int .u64 id, .int .i64 nn] W fun e w' => e = .returned (.bool true) ∧ Below W.heap.size W w' from fun W B B' g b v vP vQ h1 h2 => alike_calls h1 (by have := HN.out; omega) h2 HID.out HNN.out)
      go_enter Try.func6, Try.ntmps6
      go_wp2_with (first
        | (go_at_call 19; refine HS.out.mono ?_; rintro e w1 ⟨rfl, hd⟩; have HB1 := Aside0.mk (drawn0_below hd); clear hd)
        | (go_at_call 17; refine (F17.out _ HB1.out).mono ?_; rintro e w2 ⟨g, b, v, rfl, hL, hb⟩; have HL2 := Aside0.mk hL; have HB2 := Aside0.mk (HB1.out.trans (hb.mono HB1.out.size)); clear hL hb)
        | (go_at_call 20; refine (F20.out _ HB2.out).mono ?_; rintro e w3 ⟨vP, vQ, rfl, hR, hb⟩; obtain ⟨AP, cP, eP⟩ := Kd.R_slice hR.posts; rw [List.length_map] at eP; obtain ⟨AQ, cQ, eQ⟩ := Kd.R_slice hR.pols; subst eP; subst eQ; have HR3 := Aside0.mk hR; have HL3 := Aside0.mk (HL2.out.below hb); have HB3 := Aside0.mk (HB2.out.trans (hb.mono HB2.out.size)); clear hR hb)
        | (go_at_call 11; refine (alive_calls _).mono ?_; rintro e w4 ⟨rfl, hb⟩; have HB4 : Aside0 (Below w.heap.size w w4) := ⟨(below_alloc HB3.out (.cells #[.slice AP L.posts.length cP, .slice AQ L.pols.length cQ, .int .u64 L.next, .int .u64 L.cur] 58)).trans (hb.mono (below_alloc HB3.out (.cells #[.slice AP L.posts.length cP, .slice AQ L.pols.length cQ, .int .u64 L.next, .int .u64 L.cur] 58)).size)⟩; have HL4 : Aside0 (Led w4 w1.heap.size g b ps.length v L) := ⟨(HL3.out.below (below_alloc (Below.refl _ _) (.cells #[.slice AP L.posts.length cP, .slice AQ L.pols.length cQ, .int .u64 L.next, .int .u64 L.cur] 58))).below hb⟩; have HR4 : Aside0 (RRows w4 w2.heap.size (.slice AP L.posts.length cP) (.slice AQ L.pols.length cQ) L) := ⟨(HR3.out.below (below_alloc (Below.refl _ _) (.cells #[.slice AP L.posts.length cP, .slice AQ L.pols.length cQ, .int .u64 L.next, .int .u64 L.cur] 58))).below hb⟩; have BK4 : Aside0 (w4.heap[w3.heap.size]? = some (.cells #[.slice AP L.posts.length cP, .slice AQ L.pols.length cQ, .int .u64 L.next, .int .u64 L.cur] 58)) := ⟨blk_below (blk_new w3 (.cells #[.slice AP L.posts.length cP, .slice AQ L.pols.length cQ, .int .u64 L.next, .int .u64 L.cur] 58)) hb⟩; have b0 : w4.cell? ⟨w3.heap.size, 0, none⟩ = some (.slice AP L.posts.length cP) := (blk_cell BK4.out 0).trans rfl; have b1 : w4.cell? ⟨w3.heap.size, 1, none⟩ = some (.slice AQ L.pols.length cQ) := (blk_cell BK4.out 1).trans rfl; have b2 : w4.cell? ⟨w3.heap.size, 2, none⟩ = some (.int .u64 L.next) := (blk_cell BK4.out 2).trans rfl; have b3 : w4.cell? ⟨w3.heap.size, 3, none⟩ = some (.int .u64 L.cur) := (blk_cell BK4.out 3).trans rfl; clear hb)
        | (go_at_call 21; (with_reducible refine (F21.out _ _ _ _ _ _ _ _ HL4.out HR4.out).mono ?_); rintro e w5 ⟨rfl, hb⟩; have HB5 : Aside0 (Below w.heap.size w w5) := ⟨HB4.out.trans (hb.mono HB4.out.size)⟩; clear hb))
      go_ret
      exact ⟨rfl, HB5.out⟩
end Go.Proofs.Ytjfkenjmjoncbaa.Lg

end
