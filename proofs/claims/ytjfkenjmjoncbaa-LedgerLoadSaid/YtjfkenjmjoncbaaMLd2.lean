-- Laid together by a program of this session (merge.py) out of its own texts and of the print's, for one law. Lean checks it.
import Derived.Test.YtjfkenjmjoncbaaMLd1
section
namespace Go.Proofs.Ytjfkenjmjoncbaa.Lg
open Go Go.Maps Go.WideShapes

structure LG.Good (L : LG) : Prop where
  ok : L.Ok
  next : 1 ≤ L.next ∧ L.next < 9223372036854775808
  cur : L.cur < L.next
  ids : ∀ p ∈ L.posts, p.id < L.next
  vers : ∀ p ∈ L.posts, 1 ≤ p.ver ∧ p.ver ≤ L.newest
  old : ∀ p ∈ L.posts, L.cur < p.id ∨ p.ver = L.newest
theorem LG.Good.cand {L : LG} (h : L.Good) {p : LP} (hp : p ∈ L.posts) : L.cand p = decide (p.ver ≠ L.newest) := by
  unfold LG.cand
  by_cases c : p.ver = L.newest
  · simp [c]
  · rcases h.old p hp with q | q
    · simp [c, q]
    · exact absurd q c
end Go.Proofs.Ytjfkenjmjoncbaa.Lg

end

section
namespace Go.Proofs.Ytjfkenjmjoncbaa.Lg
open Go Go.Maps Go.WideShapes Go.RowKit Go.Proofs.Ytjfkenjmjoncbaa.PAll Go.Proofs.YtjfkenjmjoncbaaW.PrintWords Go.Proofs.YtjfkenjmjoncbaaW.PrintLast Go.Proofs.YtjfkenjmjoncbaaW.PrintMore

def nextOf (s : S52) : Int := ((valN (s.f1.take 8) : Nat) : Int)
def newestOf (s : S52) : Int := ((valN ((s.f1.take 16).drop 8) : Nat) : Int)
def curOf (s : S52) : Int := ((valN (s.f1.drop 16) : Nat) : Int)
def numsOk (s : S52) : Prop := ¬ nextOf s = 0 ∧ nextOf s < 9223372036854775808 ∧ newestOf s ≤ 100 ∧ curOf s < nextOf s
instance (s : S52) : Decidable (numsOk s) := by unfold numsOk; infer_instance
def prevOk (prev : Option Int) (k : Int) : Bool := match prev with | none => true | some q => decide (q < k)
def loadLoop (nw : Int) : List S52 → Option Int → LG → Option LG
  | [], _, L => some L
  | p :: r, prev, L => if prevOk prev p.f0 = true then if ldOk L p.f0 p.f1 nw = true then loadLoop nw r (some p.f0) (ldL L p.f0 p.f1) else none else none
def head0 (s : S52) : LG := ⟨[], [], nextOf s, curOf s⟩
def loadS (ps : List S52) : Option LG :=
  match ps.getLast? with
  | none => some LG.empty
  | some s => if s.f0 = 18446744073709551615 ∧ s.f1.length = 24 then if numsOk s then
      match loadLoop (newestOf s) ps.dropLast none (head0 s) with
      | some L => if L.newest = newestOf s then some L else none
      | none => none
    else none else none
theorem ldL_newest {L : LG} {k : Int} {bs : List Int} {nw : Int} (hn : L.newest ≤ nw) (ho : ldOk L k bs nw = true) : (ldL L k bs).newest ≤ nw := by
  unfold ldOk at ho
  unfold ldL
  split at ho
  · next hi =>
    rw [if_pos hi]
    simp only [Bool.and_eq_true, decide_eq_true_eq] at ho
    simp only [LG.newest, List.length_append, List.length_singleton] at hn ho ⊢
    omega
  · next hi =>
    rw [if_neg hi]
    exact hn
end Go.Proofs.Ytjfkenjmjoncbaa.Lg

end

section
namespace Go.Proofs.Ytjfkenjmjoncbaa.Lg
open Go Go.Maps Go.WideShapes Go.RowKit Go.Proofs.Ytjfkenjmjoncbaa.PAll Go.Proofs.YtjfkenjmjoncbaaW.PrintWords Go.Proofs.YtjfkenjmjoncbaaW.PrintLast Go.Proofs.YtjfkenjmjoncbaaW.PrintMore
set_option linter.unusedVariables false
set_option linter.unusedSimpArgs false

theorem head_led {w : World} {B g b : Nat} (h : Led w B g b 0 (.slice none 0 0) LG.empty) {nx cu : Int} (hn : 0 ≤ nx ∧ nx ≤ 18446744073709551615) (hc : 0 ≤ cu ∧ cu ≤ 18446744073709551615) :
    Led ((w.setCell ⟨g, 2, none⟩ (.int .u64 nx)).setCell ⟨g, 3, none⟩ (.int .u64 cu)) B g b 0 (.slice none 0 0) ⟨[], [], nx, cu⟩ ∧ Mv (fun j => j = g) w ((w.setCell ⟨g, 2, none⟩ (.int .u64 nx)).setCell ⟨g, 3, none⟩ (.int .u64 cu)) := by
  have m : Mv (fun j => j = g) w ((w.setCell ⟨g, 2, none⟩ (.int .u64 nx)).setCell ⟨g, 3, none⟩ (.int .u64 cu)) :=
    (Mv.set (S := fun j => j = g) _ rfl).trans (.set (S := fun j => j = g) _ rfl) (S' := fun j => j = g) (fun j hj => .inl hj)
  refine ⟨⟨blk_set (blk_set h.blk 2 (.int .u64 nx)) 3 (.int .u64 cu), map_mv h.map m (fun e => h.ne.1 e.symm), World.ownsRow_nil _ _ _ _, h.gB, h.bB, ?_⟩, m⟩
  exact ⟨List.Pairwise.nil, by simp, by simp, hn, hc, by simp, by simp, by simp⟩
def prevK (ps : List S52) (J : Int) : Option Int := if J = 0 then none else some (rd_T52 ps (J - 1)).f0
def LPost (w : World) (n : Nat) (o : Option LG) (e : Ending) (w' : World) : Prop := match o with
  | some L => ∃ g b v, e = .returned (.tuple #[.pointer (some ⟨g, 0, none⟩), .int .i64 0]) ∧ Led w' w.heap.size g b n v L ∧ Below w.heap.size w w'
  | none => e = .returned (.tuple #[.pointer none, .int .i64 8]) ∧ Below w.heap.size w w'
def lfin (nw : Int) (X : Option LG) : Option LG := match X with
  | some L => if L.newest = nw then some L else none
  | none => none
theorem loop_any {ps : List S52} {nw : Int} {M : LG} {X : Option LG} {J : Int} (h0 : 0 ≤ J) (h1 : J < ((ps.length - 1 : Nat) : Int)) (h : loadLoop nw (ps.dropLast.drop J.toNat) (prevK ps J) M = X) :
    (prevOk (prevK ps J) (rd_T52 ps J).f0 = false → X = none) ∧ (prevOk (prevK ps J) (rd_T52 ps J).f0 = true → ldOk M (rd_T52 ps J).f0 (rd_T52 ps J).f1 nw = false → X = none) ∧
    (prevOk (prevK ps J) (rd_T52 ps J).f0 = true → ldOk M (rd_T52 ps J).f0 (rd_T52 ps J).f1 nw = true → loadLoop nw (ps.dropLast.drop (J + 1).toNat) (prevK ps (J + 1)) (ldL M (rd_T52 ps J).f0 (rd_T52 ps J).f1) = X) := by
  have hl : J.toNat < ps.dropLast.length := by rw [List.length_dropLast]; omega
  have hj : J.toNat < ps.length := by omega
  have e : ps.dropLast[J.toNat] = rd_T52 ps J := by
    rw [List.getElem_dropLast]
    have := rd_get hj
    rw [Int.toNat_of_nonneg h0] at this
    exact this.symm
  rw [List.drop_eq_getElem_cons hl, e, loadLoop] at h
  have e1 : (J + 1).toNat = J.toNat + 1 := by omega
  have e2 : prevK ps (J + 1) = some (rd_T52 ps J).f0 := by unfold prevK; rw [if_neg (by omega), show J + 1 - 1 = J by omega]
  refine ⟨fun q => ?_, fun q1 q2 => ?_, fun q1 q2 => ?_⟩
  · rw [if_neg (by rw [q]; simp)] at h; exact h.symm
  · rw [if_pos q1, if_neg (by rw [q2]; simp)] at h; exact h.symm
  · rw [if_pos q1, if_pos q2] at h; rw [e1, e2]; exact h
theorem loop_fin {ps : List S52} {nw : Int} {M : LG} {X : Option LG} {J : Int} (h1 : ((ps.length - 1 : Nat) : Int) ≤ J) (h : loadLoop nw (ps.dropLast.drop J.toNat) (prevK ps J) M = X) : some M = X := by
  rw [List.drop_eq_nil_of_le (by rw [List.length_dropLast]; omega), loadLoop] at h
  exact h
set_option maxHeartbeats 8000000 in
set_option maxRecDepth 100000 in
theorem Load_nums {w : World} {A0 : Option Addr} {c0 : Nat} {ps : List S52} (hC : Kd.C k52 w A0 ps.length ps) (hc : ps.length ≤ c0) (hm : ps.length ≤ 3000000) (hk : ∀ x ∈ ps, 0 ≤ x.f0 ∧ x.f0 ≤ 18446744073709551615) (hb : ∀ x ∈ ps, Bytes x.f1) (hne : ps ≠ []) {s : S52} (es : rd_T52 ps (((ps.length - 1 : Nat) : Int)) = s) (hs : s ∈ ps) (s1 : s.f0 = 18446744073709551615) (s2 : s.f1.length = 24) (hno : numsOk s) {X : Option LG} (hl : loadLoop (newestOf s) ps.dropLast none (head0 s) = X) :
    Calls Try.prog 17 #[.slice A0 ps.length c0] w (LPost w ps.length (lfin (newestOf s) X)) := by
  obtain ⟨n1, n2, n3, n4⟩ := hno
  have hpos : 0 < ps.length := List.length_pos_iff.2 hne
  obtain ⟨J0, hJ0⟩ : ∃ J0 : Int, J0 = ((ps.length - 1 : Nat) : Int) := ⟨_, rfl⟩
  rw [← hJ0] at es
  have q0 := eq_true (show 0 ≤ J0 by omega)
  have q1 := eq_true (show J0 < (ps.length : Int) by omega)
  obtain ⟨ad, A1, c1, ea, x0, x1, hl1, hC1⟩ := at_T52 hC J0 (by omega) (by omega)
  rw [es] at x0 x1 hl1 hC1
  have hby := hb s hs
  obtain ⟨bs, hbs⟩ : ∃ bs, s.f1 = bs := ⟨_, rfl⟩
  obtain ⟨nx, hnx⟩ : ∃ nx, nextOf s = nx := ⟨_, rfl⟩
  obtain ⟨nw, hnw⟩ : ∃ nw, newestOf s = nw := ⟨_, rfl⟩
  obtain ⟨cu, hcu⟩ : ∃ cu, curOf s = cu := ⟨_, rfl⟩
  have e8 : bs.drop 16 = (bs.drop 16).take 8 := by rw [List.take_of_length_le]; rw [← hbs, List.length_drop]; omega
  have hhd : head0 s = ⟨[], [], nx, cu⟩ := by unfold head0; rw [hnx, hcu]
  rw [s1] at x0
  rw [hbs] at s2 x1 hl1 hC1 hby
  rw [hnx] at n1 n2 n4
  rw [hnw] at n3 hl ⊢
  rw [hcu] at n4
  rw [hhd] at hl
  have m1 : (bs.take 8).length = 8 := by rw [List.length_take]; omega
  have m2 : ((bs.take 16).drop 8).length = 8 := by rw [List.length_drop, List.length_take]; omega
  have m3 : (bs.drop 16).length = 8 := by rw [List.length_drop]; omega
  have b1 := bytes_take hby 8
  have b2 := bytes_drop (bytes_take hby 16) 8
  have b3 := bytes_drop hby 16
  have hnum1 : ledger_number.f 9 (bs.take 8) = some nx := by rw [← hnx, nextOf, hbs]; exact num_is _ b1 (by omega) 9 (by omega)
  have hnum2 : ledger_number.f 9 ((bs.take 16).drop 8) = some nw := by rw [← hnw, newestOf, hbs]; exact num_is _ b2 (by omega) 9 (by omega)
  have hnum3 : ledger_number.f 9 (bs.drop 16) = some cu := by rw [← hcu, curOf, hbs]; exact num_is _ b3 (by omega) 9 (by omega)
  have HNX := Aside0.mk (show 0 ≤ nx ∧ nx ≤ 18446744073709551615 by rw [← hnx, nextOf, hbs]; exact num64 b1 (by omega))
  have HCU := Aside0.mk (show 0 ≤ cu ∧ cu ≤ 18446744073709551615 by rw [← hcu, curOf, hbs]; exact num64 b3 (by omega))
  have HNW := Aside0.mk (show 0 ≤ nw ∧ nw ≤ 100 by refine ⟨?_, n3⟩; rw [← hnw, newestOf, hbs]; exact (num64 b2 (by omega)).1)
  obtain ⟨i0, hi5, _, hsz5, _⟩ := info_parts info5
  obtain ⟨tk1, tk2, tk3⟩ := print_take_of (P := Try.prog) (Value.int .u8) (0 : Int) 50 5 .i64 Try.underlying50 hi5 hsz5 A1 c1 bs 8 (by omega) (by omega) hl1
  have tk1' : ∀ W : World, (Instr.slice 50 (.slice A1 bs.length c1) none (some (.int .i64 8)) none).run Try.prog W = .ok (.slice A1 (bs.take 8).length c1) W := tk1
  have TK2 := Aside0.mk (show ∀ W, (Kd.int .u8).C W A1 bs.length bs → (Kd.int .u8).C W A1 (bs.take 8).length (bs.take 8) from fun W hC => Kd.C_of_reads (h1 := fun _ => rfl) (tk2 W (Kd.reads_of_C hC)))
  have TK3 := Aside0.mk (show (bs.take 8).length ≤ c1 from tk3)
  obtain ⟨A2, dr1, dr2, dr3⟩ := print_drop_of (P := Try.prog) (Value.int .u8) (0 : Int) 50 5 .i64 Try.underlying50 hi5 hsz5 A1 c1 bs 16 (by omega) (by omega) hl1
  obtain ⟨c2, hc2⟩ : ∃ c2, c1 - (16 : Int).toNat = c2 := ⟨_, rfl⟩
  rw [hc2] at dr1 dr3
  have dr1' : ∀ W : World, (Instr.slice 50 (.slice A1 bs.length c1) (some (.int .i64 16)) none none).run Try.prog W = .ok (.slice A2 (bs.drop 16).length c2) W := dr1
  have DR2 := Aside0.mk (show ∀ W, (Kd.int .u8).C W A1 bs.length bs → (Kd.int .u8).C W A2 (bs.drop 16).length (bs.drop 16) from fun W hC => Kd.C_of_reads (h1 := fun _ => rfl) (dr2 W (Kd.reads_of_C hC)))
  have DR3 := Aside0.mk (show (bs.drop 16).length ≤ c2 from dr3)
  obtain ⟨A3, md1, md2, md3⟩ := print_mid_of (P := Try.prog) (Value.int .u8) (0 : Int) 50 5 .i64 .i64 Try.underlying50 hi5 hsz5 A1 c1 bs 8 16 (by omega) (by omega) (by omega) hl1
  obtain ⟨c3, hc3⟩ : ∃ c3, c1 - (8 : Int).toNat = c3 := ⟨_, rfl⟩
  rw [hc3] at md1 md3
  have md1' : ∀ W : World, (Instr.slice 50 (.slice A1 bs.length c1) (some (.int .i64 8)) (some (.int .i64 16)) none).run Try.prog W = .ok (.slice A3 ((bs.take 16).drop 8).length c3) W := md1
  have MD2 := Aside0.mk (show ∀ W, (Kd.int .u8).C W A1 bs.length bs → (Kd.int .u8).C W A3 ((bs.take 16).drop 8).length ((bs.take 16).drop 8) from fun W hC => Kd.C_of_reads (h1 := fun _ => rfl) (md2 W (Kd.reads_of_C hC)))
  have MD3 := Aside0.mk (show ((bs.take 16).drop 8).length ≤ c3 from md3)
  have HNUM1 := Aside0.mk hnum1
  have HNUM2 := Aside0.mk hnum2
  have HNUM3 := Aside0.mk hnum3
  obtain ⟨tk, htk⟩ : ∃ tk, bs.take 8 = tk := ⟨_, rfl⟩
  obtain ⟨dr, hdr⟩ : ∃ dr, bs.drop 16 = dr := ⟨_, rfl⟩
  obtain ⟨md, hmd⟩ : ∃ md, (bs.take 16).drop 8 = md := ⟨_, rfl⟩
  rw [htk] at tk1' TK2 TK3 HNUM1
  rw [hdr] at dr1' DR2 DR3 HNUM3
  rw [hmd] at md1' MD2 MD3 HNUM2
  obtain ⟨i29, hi29, _, _, _⟩ := info_parts info52
  have cut := cut_to (P := Try.prog) 29 52 .i64 Try.underlying29 hi29 A0 ps.length c0 J0 (by omega) (by omega) hc
  obtain ⟨N0, hN0⟩ : ∃ N0, J0.toNat = N0 := ⟨_, rfl⟩
  rw [hN0] at cut
  have HN0 := Aside0.mk (show (N0 : Int) = J0 by omega)
  have hw0 : wrap64 ((ps.length : Int) - 1) = J0 := by unfold wrap64; omega
  have d0 : ((ps.length : Int) == 0) = false := beq_eq_false_iff_ne.2 (by omega)
  have d1 : ((bs.length : Int) != 24) = false := bne_eq_false_iff_eq.2 (by omega)
  have d2 : (nx == 0) = false := beq_eq_false_iff_ne.2 n1
  have d3 : decide (9223372036854775808 ≤ nx) = false := decide_eq_false (by omega)
  have d4 : decide (100 < nw) = false := decide_eq_false (by omega)
  have d5 : decide (nx ≤ cu) = false := decide_eq_false (by omega)
  subst ea
  have HC := Aside0.mk hC
  have HCC := Aside0.mk hc
  have HM := Aside0.mk hm
  have HK := Aside0.mk hk
  have HBY := Aside0.mk hb
  have HC1 := Aside0.mk hC1
  have HL := Aside0.mk hl
  have HJ0 := Aside0.mk hJ0
  have HPS := Aside0.mk hpos
  have X0 := Aside0.mk x0
  have X1 := Aside0.mk x1
  clear hC hc hm hk hb hC1 hl hJ0 hpos hne es hs s1 s2 n1 n2 n3 n4 hbs hby hnx hnw hcu hhd m1 m2 m3 b1 b2 b3 hnum1 hnum2 hnum3 tk1 tk2 tk3 dr1 dr2 dr3 md1 md2 md3 hc2 hc3 htk hdr hmd hi5 hsz5 hi29 hl1 x0 x1 e8 hN0 s
  go_enter Try.func17, Try.ntmps17
  go_wp2_with (first
    | (go_at_call 23; refine (New_calls _).mono ?_; rintro e w1 ⟨g, b, rfl, hL, hb⟩; have HL1 := Aside0.mk hL; have HB1 := Aside0.mk hb; have x0 := (hb.cell (World.block_lt_of_cell? w _ X0.out)).trans X0.out; have x1 := (hb.cell (World.block_lt_of_cell? w _ X1.out)).trans X1.out; clear hL hb)
    | (go_at_call 29; (with_reducible refine (ledger_number.calls 9 A3 c3 md nw _ ?s1 ?s2 HNUM2.out).mono ?_); (case s1 => exact MD2.out _ (Kd.C_below HC1.out (below_alloc HB1.out _))); (case s2 => exact MD3.out); rintro e w5 ⟨rfl, hd⟩; have HBD := Aside0.mk (drawn_below hd); have HL5 := Aside0.mk ((HL1.out.below (below_alloc (Below.refl _ _) _)).below HBD.out); have BK5 := Aside0.mk (blk_below (blk_new w1 (.cells #[.int .u64 18446744073709551615, .slice A1 bs.length c1] 52)) HBD.out); have HB5 := Aside0.mk ((below_alloc HB1.out _).trans (HBD.out.mono (below_alloc HB1.out _).size)); have HG := Aside0.mk (HL1.out.lt (.inl rfl)); have HWB := Aside0.mk HB1.out.size; clear hd x0 x1))
  generalize w1.heap.size = gb at BK5 HG HWB ⊢
  clear HBD HL1 HB1
  obtain ⟨⟨h0, h1, h2, h3⟩, hf⟩ := HL5.out.cells
  have hsz5' : g < w5.heap.size := (HL5.out.lt (.inl rfl)).2
  have HC5 := Aside0.mk (Kd.C_below HC1.out HB5.out)
  have HBb := Aside0.mk (Below.refl w5.heap.size w5)
  have HSa := Aside0.mk (show ∀ W, Below w5.heap.size w5 W → W.cell? ⟨gb, 1, none⟩ = some (.slice A1 bs.length c1) from fun W hW => (blk_cell (blk_below BK5.out hW) 1).trans rfl)
  have HKp := Aside0.mk (show ∀ (W : World) (i : Nat) (u : Value), W.cell? ⟨gb, 1, none⟩ = some (.slice A1 bs.length c1) → (W.setCell ⟨g, i, none⟩ u).cell? ⟨gb, 1, none⟩ = some (.slice A1 bs.length c1) from fun W i u hW => (World.cell?_of_block (Below.heap_setCell W ⟨g, i, none⟩ u gb (by have := HG.out.2; show gb ≠ g; omega))).trans hW)
  go_region_held3 (fun W => W.cell? ⟨gb, 1, none⟩ = some (.slice A1 bs.length c1)) ((first | (repeat (refine HKp.out _ _ _ ?_)); refine HSa.out _ ?_; repeat (first | exact HBb.out | exact Below.refl _ _ | apply below_drew1 | apply pw_below_drewN | apply below_alloc))) (first
    | (go_at_call 29; (with_reducible refine (ledger_number.calls 9 A1 c1 tk nx _ ?s1 ?s2 HNUM1.out).mono ?_); (case s1 => exact TK2.out _ (Kd.C_below HC5.out (show Below w5.heap.size w5 _ from by repeat (first | exact HBb.out | exact Below.refl _ _ | apply below_drew1 | apply pw_below_drewN | apply below_alloc)))); (case s2 => exact TK3.out); rintro e w6 ⟨rfl, hd⟩; obtain ⟨n6, rfl⟩ := hd.out; clear hd)
    | (go_at_call 29; (with_reducible refine (ledger_number.calls 9 A2 c2 dr cu _ ?s1 ?s2 HNUM3.out).mono ?_); (case s1 => exact DR2.out _ (Kd.C_below HC5.out (show Below w5.heap.size w5 _ from by repeat (first | exact HBb.out | exact Below.refl _ _ | apply below_drew1 | apply pw_below_drewN | apply below_alloc)))); (case s2 => exact DR3.out); rintro e w7 ⟨rfl, hd⟩; obtain ⟨n7, rfl⟩ := hd.out; clear hd))
  clear h0 h1 h2 h3 hf hsz5' HSa HKp HBb HC5
  obtain ⟨hL9, hm9⟩ := head_led (HL5.out.below (pw_below_drewN (Below.refl _ _) (1 + n6 + n7))) HNX.out HCU.out
  have HL9 := Aside0.mk hL9
  have HB9 := Aside0.mk (mv_below (HB5.out.trans ((pw_below_drewN (Below.refl w5.heap.size w5) (1 + n6 + n7)).mono HB5.out.size)) hm9 (fun j hj => by rw [hj]; exact HG.out.1) (by simpa using HB5.out.size))
  rename_i hheld
  clear hL9 hm9 hheld
  generalize (((w5.drewN (1 + n6 + n7)).setCell ⟨g, 2, none⟩ (.int .u64 nx)).setCell ⟨g, 3, none⟩ (.int .u64 cu)) = w9 at HL9 HB9 ⊢
  obtain ⟨⟨h0, h1, h2, h3⟩, hf⟩ := HL9.out.cells
  go_wp2
  go_quiet (fail)
  have HL10 := Aside0.mk (HL9.out.below (pw_below_drewN (Below.refl _ _) nq))
  have HB10 := Aside0.mk (HB9.out.trans ((pw_below_drewN (Below.refl w9.heap.size w9) nq).mono HB9.out.size))
  clear h0 h1 h2 h3 hf
  generalize w9.drewN nq = w10 at HL10 HB10 ⊢
  go_wp2
  go_loopg [80] J0.toNat (fun kq v80 wr => ∃ (J : Int) (M : LG) (v : Value), v80 = .int .i64 J ∧ Aside0 (0 ≤ J ∧ J + kq = J0) ∧ Aside0 (Led wr w.heap.size g b J.toNat v M) ∧ Aside0 (loadLoop nw (ps.dropLast.drop J.toNat) (prevK ps J) M = X) ∧ Aside0 (M.newest ≤ nw) ∧ Aside0 (Below w.heap.size w wr))
  case atStart => exact ⟨0, _, _, rfl, ⟨by have := of_eq_true q0; omega⟩, HL10, HL, ⟨by have := HNW.out; show (([] : List ByteArray).length : Int) ≤ nw; simp; omega⟩, HB10⟩
  case round =>
    clear HL9 HB9 HL10 HB10 HL5 HB5 BK5 HL HNX HCU TK2 TK3 DR2 DR3 MD2 MD3 HNUM1 HNUM2 HNUM3 HC1 X0 X1 tk1' dr1' md1' cut hw0 d0 d1 d2 d3 d4 d5
    obtain ⟨J, M, v, rfl, HJ, HLD, HLP, HNWM, HB⟩ := hrel
    by_cases c1 : J < J0
    · have c1b : decide (J < (N0 : Int)) = true := decide_eq_true (by rw [HN0.out]; exact c1)
      have qN := eq_true (show J < (N0 : Int) by rw [HN0.out]; exact c1)
      have q2 := eq_true HJ.out.1
      have hjl : J < (ps.length : Int) := by have := of_eq_true q1; omega
      have q3 := eq_true hjl
      obtain ⟨ad', A', c', ea, y0, y1, hl', hC'⟩ := at_T52 HC.out J HJ.out.1 hjl
      cases ea
      obtain ⟨st0, st2, st3⟩ := loop_any HJ.out.1 (by rw [← HJ0.out]; exact c1) HLP.out
      have hpm : rd_T52 ps J ∈ ps := by
        have hj : J.toNat < ps.length := by have := HJ.out; omega
        have := rd_get hj
        rw [Int.toNat_of_nonneg HJ.out.1] at this
        rw [this]; exact List.getElem_mem hj
      have HKJ := Aside0.mk (HK.out _ hpm)
      have HBJ := Aside0.mk (HBY.out _ hpm)
      have HCJ := Aside0.mk (Kd.C_below hC' HB.out)
      have HCL := Aside0.mk hl'
      replace y0 := (HB.out.cell (World.block_lt_of_cell? w _ y0)).trans y0
      replace y1 := (HB.out.cell (World.block_lt_of_cell? w _ y1)).trans y1
      obtain ⟨pk, hpk⟩ : ∃ pk, (rd_T52 ps J).f0 = pk := ⟨_, rfl⟩
      obtain ⟨pb, hpb⟩ : ∃ pb, (rd_T52 ps J).f1 = pb := ⟨_, rfl⟩
      rw [hpk] at y0 st0 st2 st3 HKJ
      rw [hpb] at y1 st2 st3 HCJ HCL HBJ
      have HT2 := Aside0.mk st2
      have HT3 := Aside0.mk st3
      have hjw : wrap64 (J + 1) = J + 1 := by have := HJ.out; have := HM.out; have := HJ0.out; unfold wrap64; omega
      clear hpm hpk hpb hjl hl' hC' st2 st3 c1 HLP
      by_cases cz : J = 0
      · have e1 : decide (0 < J) = false := decide_eq_false (by omega)
        have hpv0 : prevOk (prevK ps J) pk = true := by unfold prevK; rw [if_pos cz]; rfl
        clear st0 cz
        by_cases co : ldOk M pk pb nw = true
        · have HS2 := Aside0.mk co
          have HS3 := Aside0.mk (HT3.out hpv0 co)
          clear co
          go_wp2
          have HB13 := Aside0.mk (below_alloc HB.out (.cells #[.int .u64 pk, .slice A' pb.length c'] 52))
          have HL13 := Aside0.mk (HLD.out.below (below_alloc (Below.refl _ _) (.cells #[.int .u64 pk, .slice A' pb.length c'] 52)))
          have BK13 := Aside0.mk (blk_new wr (.cells #[.int .u64 pk, .slice A' pb.length c'] 52))
          have HC13 := Aside0.mk (Kd.C_below HCJ.out (below_alloc (Below.refl wr.heap.size wr) (.cells #[.int .u64 pk, .slice A' pb.length c'] 52)))
          clear y0 y1 HLD HB
          generalize wr.alloc (.cells #[.int .u64 pk, .slice A' pb.length c'] 52) = w13 at HB13 HL13 BK13 HC13 ⊢
          generalize wr.heap.size = gb2 at BK13 ⊢
          have k0 : w13.cell? ⟨gb2, 0, none⟩ = some (.int .u64 pk) := (blk_cell BK13.out 0).trans rfl
          have k1 : w13.cell? ⟨gb2, 1, none⟩ = some (.slice A' pb.length c') := (blk_cell BK13.out 1).trans rfl
          refine region_tail 17 (by kernel_rfl) (by kernel_rfl) ?_
          simp only [List.take_succ_cons, List.take_zero, List.drop_succ_cons, List.drop_zero]
          repeat (with_reducible refine wpStill_step ?_; intro K hK; go_simp; with_reducible refine hK _ ?_; clear hK K)
          with_reducible refine wpStill_nil ?_
          have HL13d := Aside0.mk (HL13.out.below (below_drew (Below.refl _ w13)))
          have HB13d := Aside0.mk (HB13.out.trans ((below_drew (Below.refl w13.heap.size w13)).mono HB13.out.size))
          have HC13d := Aside0.mk (Kd.C_below HC13.out (below_drew (Below.refl w13.heap.size w13)))
          go_wp2_with (go_at_call 30; refine (load_calls HL13d.out HB13d.out.size (by have := HJ.out; have := HM.out; have := HJ0.out; unfold maxLen; omega) HKJ.out HC13d.out HCL.out HBJ.out HNWM.out HNW.out.2).mono ?_; rintro e w14 ⟨rfl, hld⟩; rw [HS2.out]; obtain ⟨⟨v', hL14, _⟩, hm14⟩ := hld.did HS2.out; have HL14 := Aside0.mk hL14; have HB14 := Aside0.mk (mv_below HB13d.out hm14 (fun j hj => (HL13d.out.lt hj).1) HB13d.out.size); clear hL14 hm14 hld k0 k1)
          go_roundg (gk - 1)
          case measure => have := HJ.out; have := of_decide_eq_true c1b; have := HN0.out; omega
          case rel =>
            have hJ := HJ.out
            have hJ1 := of_decide_eq_true c1b
            have hN0 := HN0.out
            have e1' : (J + 1).toNat = J.toNat + 1 := by omega
            refine ⟨J + 1, _, v', by rw [hjw], ⟨by omega⟩, ⟨by rw [e1']; exact HL14.out⟩, HS3, ⟨ldL_newest HNWM.out HS2.out⟩, HB14⟩
        · have HS2 := Aside0.mk (show ldOk M pk pb nw = false by simpa using co)
          have HX0 := Aside0.mk (HT2.out hpv0 (by simpa using co))
          clear co
          go_wp2
          have HB13 := Aside0.mk (below_alloc HB.out (.cells #[.int .u64 pk, .slice A' pb.length c'] 52))
          have HL13 := Aside0.mk (HLD.out.below (below_alloc (Below.refl _ _) (.cells #[.int .u64 pk, .slice A' pb.length c'] 52)))
          have BK13 := Aside0.mk (blk_new wr (.cells #[.int .u64 pk, .slice A' pb.length c'] 52))
          have HC13 := Aside0.mk (Kd.C_below HCJ.out (below_alloc (Below.refl wr.heap.size wr) (.cells #[.int .u64 pk, .slice A' pb.length c'] 52)))
          clear y0 y1 HLD HB
          generalize wr.alloc (.cells #[.int .u64 pk, .slice A' pb.length c'] 52) = w13 at HB13 HL13 BK13 HC13 ⊢
          generalize wr.heap.size = gb2 at BK13 ⊢
          have k0 : w13.cell? ⟨gb2, 0, none⟩ = some (.int .u64 pk) := (blk_cell BK13.out 0).trans rfl
          have k1 : w13.cell? ⟨gb2, 1, none⟩ = some (.slice A' pb.length c') := (blk_cell BK13.out 1).trans rfl
          refine region_tail 17 (by kernel_rfl) (by kernel_rfl) ?_
          simp only [List.take_succ_cons, List.take_zero, List.drop_succ_cons, List.drop_zero]
          repeat (with_reducible refine wpStill_step ?_; intro K hK; go_simp; with_reducible refine hK _ ?_; clear hK K)
          with_reducible refine wpStill_nil ?_
          have HL13d := Aside0.mk (HL13.out.below (below_drew (Below.refl _ w13)))
          have HB13d := Aside0.mk (HB13.out.trans ((below_drew (Below.refl w13.heap.size w13)).mono HB13.out.size))
          have HC13d := Aside0.mk (Kd.C_below HC13.out (below_drew (Below.refl w13.heap.size w13)))
          go_wp2_with (go_at_call 30; refine (load_calls HL13d.out HB13d.out.size (by have := HJ.out; have := HM.out; have := HJ0.out; unfold maxLen; omega) HKJ.out HC13d.out HCL.out HBJ.out HNWM.out HNW.out.2).mono ?_; rintro e w14 ⟨rfl, hld⟩; rw [HS2.out]; have HB14 := Aside0.mk (mv_below HB13d.out hld.mv (fun j hj => (HL13d.out.lt hj).1) HB13d.out.size); clear hld k0 k1)
          refine bodyPost_ret (results_tmp2 rfl _ _ _) rfl ?_
          rw [HX0.out]
          exact ⟨rfl, HB14.out⟩
      · have e1 : decide (0 < J) = true := decide_eq_true (by have := HJ.out; omega)
        have hpv : prevK ps J = some (rd_T52 ps (J - 1)).f0 := if_neg cz
        obtain ⟨J1, hJ1⟩ : ∃ J1, J - 1 = J1 := ⟨_, rfl⟩
        rw [hJ1] at hpv
        obtain ⟨ad2, A2', c2', ea, z0, z1, _, _⟩ := at_T52 HC.out J1 (by have := HJ.out; omega) (by have := of_eq_true q3; omega)
        cases ea
        have q4 := eq_true (show 0 ≤ J1 by have := HJ.out; omega)
        have q5 := eq_true (show J1 < (ps.length : Int) by have := of_eq_true q3; omega)
        obtain ⟨pp, hpp⟩ : ∃ pp, (rd_T52 ps J1).f0 = pp := ⟨_, rfl⟩
        rw [hpp] at hpv z0
        have hjw1 : wrap64 (J - 1) = J1 := by have := HJ.out; have := HM.out; have := HJ0.out; unfold wrap64; omega
        have hjw2 : IntKind.i64.wrap (J - 1) = J1 := by have := HJ.out; have := HM.out; have := HJ0.out; simp [IntKind.wrap, IntKind.bits, IntKind.signed]; omega
        have Z0 := Aside0.mk z0
        clear cz hJ1 hpp z0 z1
        by_cases ck : pp < pk
        · have e2 : decide (pk ≤ pp) = false := decide_eq_false (by omega)
          have hpv0 : prevOk (prevK ps J) pk = true := by rw [hpv]; exact decide_eq_true ck
          clear st0 ck hpv
          by_cases co : ldOk M pk pb nw = true
          · have HS2 := Aside0.mk co
            have HS3 := Aside0.mk (HT3.out hpv0 co)
            clear co
            go_wp2
            have HB13 := Aside0.mk (below_alloc HB.out (.cells #[.int .u64 pk, .slice A' pb.length c'] 52))
            have HL13 := Aside0.mk (HLD.out.below (below_alloc (Below.refl _ _) (.cells #[.int .u64 pk, .slice A' pb.length c'] 52)))
            have BK13 := Aside0.mk (blk_new wr (.cells #[.int .u64 pk, .slice A' pb.length c'] 52))
            have HC13 := Aside0.mk (Kd.C_below HCJ.out (below_alloc (Below.refl wr.heap.size wr) (.cells #[.int .u64 pk, .slice A' pb.length c'] 52)))
            clear y0 y1 HLD HB
            generalize wr.alloc (.cells #[.int .u64 pk, .slice A' pb.length c'] 52) = w13 at HB13 HL13 BK13 HC13 ⊢
            generalize wr.heap.size = gb2 at BK13 ⊢
            have k0 : w13.cell? ⟨gb2, 0, none⟩ = some (.int .u64 pk) := (blk_cell BK13.out 0).trans rfl
            have k1 : w13.cell? ⟨gb2, 1, none⟩ = some (.slice A' pb.length c') := (blk_cell BK13.out 1).trans rfl
            have z0 := (HB13.out.cell (World.block_lt_of_cell? w _ Z0.out)).trans Z0.out
            refine region_tail 17 (by kernel_rfl) (by kernel_rfl) ?_
            simp only [List.take_succ_cons, List.take_zero, List.drop_succ_cons, List.drop_zero]
            repeat (with_reducible refine wpStill_step ?_; intro K hK; go_simp; with_reducible refine hK _ ?_; clear hK K)
            with_reducible refine wpStill_nil ?_
            have HL13d := Aside0.mk (HL13.out.below (below_drew (Below.refl _ w13)))
            have HB13d := Aside0.mk (HB13.out.trans ((below_drew (Below.refl w13.heap.size w13)).mono HB13.out.size))
            have HC13d := Aside0.mk (Kd.C_below HC13.out (below_drew (Below.refl w13.heap.size w13)))
            go_wp2_with (go_at_call 30; refine (load_calls HL13d.out HB13d.out.size (by have := HJ.out; have := HM.out; have := HJ0.out; unfold maxLen; omega) HKJ.out HC13d.out HCL.out HBJ.out HNWM.out HNW.out.2).mono ?_; rintro e w14 ⟨rfl, hld⟩; rw [HS2.out]; obtain ⟨⟨v', hL14, _⟩, hm14⟩ := hld.did HS2.out; have HL14 := Aside0.mk hL14; have HB14 := Aside0.mk (mv_below HB13d.out hm14 (fun j hj => (HL13d.out.lt hj).1) HB13d.out.size); clear hL14 hm14 hld k0 k1)
            go_roundg (gk - 1)
            case measure => have := HJ.out; have := of_decide_eq_true c1b; have := HN0.out; omega
            case rel =>
              have hJ := HJ.out
              have hJ1 := of_decide_eq_true c1b
              have hN0 := HN0.out
              have e1' : (J + 1).toNat = J.toNat + 1 := by omega
              refine ⟨J + 1, _, v', by rw [hjw], ⟨by omega⟩, ⟨by rw [e1']; exact HL14.out⟩, HS3, ⟨ldL_newest HNWM.out HS2.out⟩, HB14⟩
          · have HS2 := Aside0.mk (show ldOk M pk pb nw = false by simpa using co)
            have HX0 := Aside0.mk (HT2.out hpv0 (by simpa using co))
            clear co
            go_wp2
            have HB13 := Aside0.mk (below_alloc HB.out (.cells #[.int .u64 pk, .slice A' pb.length c'] 52))
            have HL13 := Aside0.mk (HLD.out.below (below_alloc (Below.refl _ _) (.cells #[.int .u64 pk, .slice A' pb.length c'] 52)))
            have BK13 := Aside0.mk (blk_new wr (.cells #[.int .u64 pk, .slice A' pb.length c'] 52))
            have HC13 := Aside0.mk (Kd.C_below HCJ.out (below_alloc (Below.refl wr.heap.size wr) (.cells #[.int .u64 pk, .slice A' pb.length c'] 52)))
            clear y0 y1 HLD HB
            generalize wr.alloc (.cells #[.int .u64 pk, .slice A' pb.length c'] 52) = w13 at HB13 HL13 BK13 HC13 ⊢
            generalize wr.heap.size = gb2 at BK13 ⊢
            have k0 : w13.cell? ⟨gb2, 0, none⟩ = some (.int .u64 pk) := (blk_cell BK13.out 0).trans rfl
            have k1 : w13.cell? ⟨gb2, 1, none⟩ = some (.slice A' pb.length c') := (blk_cell BK13.out 1).trans rfl
            have z0 := (HB13.out.cell (World.block_lt_of_cell? w _ Z0.out)).trans Z0.out
            refine region_tail 17 (by kernel_rfl) (by kernel_rfl) ?_
            simp only [List.take_succ_cons, List.take_zero, List.drop_succ_cons, List.drop_zero]
            repeat (with_reducible refine wpStill_step ?_; intro K hK; go_simp; with_reducible refine hK _ ?_; clear hK K)
            with_reducible refine wpStill_nil ?_
            have HL13d := Aside0.mk (HL13.out.below (below_drew (Below.refl _ w13)))
            have HB13d := Aside0.mk (HB13.out.trans ((below_drew (Below.refl w13.heap.size w13)).mono HB13.out.size))
            have HC13d := Aside0.mk (Kd.C_below HC13.out (below_drew (Below.refl w13.heap.size w13)))
            go_wp2_with (go_at_call 30; refine (load_calls HL13d.out HB13d.out.size (by have := HJ.out; have := HM.out; have := HJ0.out; unfold maxLen; omega) HKJ.out HC13d.out HCL.out HBJ.out HNWM.out HNW.out.2).mono ?_; rintro e w14 ⟨rfl, hld⟩; rw [HS2.out]; have HB14 := Aside0.mk (mv_below HB13d.out hld.mv (fun j hj => (HL13d.out.lt hj).1) HB13d.out.size); clear hld k0 k1)
            refine bodyPost_ret (results_tmp2 rfl _ _ _) rfl ?_
            rw [HX0.out]
            exact ⟨rfl, HB14.out⟩
        · have e2 : decide (pk ≤ pp) = true := decide_eq_true (by omega)
          have HX0 := Aside0.mk (st0 (by rw [hpv]; exact decide_eq_false ck))
          clear st0 ck hpv
          go_wp2
          have HB13 := Aside0.mk (below_alloc HB.out (.cells #[.int .u64 pk, .slice A' pb.length c'] 52))
          have HL13 := Aside0.mk (HLD.out.below (below_alloc (Below.refl _ _) (.cells #[.int .u64 pk, .slice A' pb.length c'] 52)))
          have BK13 := Aside0.mk (blk_new wr (.cells #[.int .u64 pk, .slice A' pb.length c'] 52))
          have HC13 := Aside0.mk (Kd.C_below HCJ.out (below_alloc (Below.refl wr.heap.size wr) (.cells #[.int .u64 pk, .slice A' pb.length c'] 52)))
          clear y0 y1 HLD HB
          generalize wr.alloc (.cells #[.int .u64 pk, .slice A' pb.length c'] 52) = w13 at HB13 HL13 BK13 HC13 ⊢
          generalize wr.heap.size = gb2 at BK13 ⊢
          have k0 : w13.cell? ⟨gb2, 0, none⟩ = some (.int .u64 pk) := (blk_cell BK13.out 0).trans rfl
          have k1 : w13.cell? ⟨gb2, 1, none⟩ = some (.slice A' pb.length c') := (blk_cell BK13.out 1).trans rfl
          have z0 := (HB13.out.cell (World.block_lt_of_cell? w _ Z0.out)).trans Z0.out
          go_quiet (fail)
          go_wp2
          refine bodyPost_ret (results_tmp2 rfl _ _ _) rfl ?_
          rw [HX0.out]
          exact ⟨rfl, HB13.out.trans ((pw_below_drewN (Below.refl w13.heap.size w13) nq).mono HB13.out.size)⟩
    · have hJe : J0 ≤ J := by omega
      have c1b : decide (J < (N0 : Int)) = false := decide_eq_false (by rw [HN0.out]; omega)
      have hME := loop_fin (show ((ps.length - 1 : Nat) : Int) ≤ J by rw [← HJ0.out]; exact hJe) HLP.out
      have HX0 := Aside0.mk hME
      clear HLP c1 hJe hME
      by_cases cn : M.newest = nw
      · have HLA := Aside0.mk cn
        clear cn
        go_wp2_with (go_at_call 26; refine (newest_calls HLD.out).mono ?_; rintro e w' ⟨rfl, rfl⟩; rw [HLA.out])
        refine bodyPost_ret (results_tmp2 rfl _ _ _) rfl ?_
        rw [← HX0.out]
        show LPost w ps.length (if M.newest = nw then some M else none) _ _
        rw [if_pos HLA.out]
        exact ⟨g, b, v, rfl, HLD.out.mono (by have := HJ.out; have := HJ0.out; omega), HB.out⟩
      · have HLA := Aside0.mk cn
        have cnb : (M.newest != nw) = true := bne_iff_ne.2 cn
        clear cn
        go_wp2_with (go_at_call 26; refine (newest_calls HLD.out).mono ?_; rintro e w' ⟨rfl, rfl⟩)
        refine bodyPost_ret (results_tmp2 rfl _ _ _) rfl ?_
        rw [← HX0.out]
        show LPost w ps.length (if M.newest = nw then some M else none) _ _
        rw [if_neg HLA.out]
        exact ⟨rfl, HB.out⟩
set_option maxHeartbeats 4000000 in
set_option maxRecDepth 100000 in
theorem Load_n1 {w : World} {A0 : Option Addr} {c0 : Nat} {ps : List S52} (hC : Kd.C k52 w A0 ps.length ps) (hc : ps.length ≤ c0) (hm : ps.length ≤ 3000000) (hk : ∀ x ∈ ps, 0 ≤ x.f0 ∧ x.f0 ≤ 18446744073709551615) (hb : ∀ x ∈ ps, Bytes x.f1) (hne : ps ≠ []) {s : S52} (es : rd_T52 ps (((ps.length - 1 : Nat) : Int)) = s) (hs : s ∈ ps) (s1 : s.f0 = 18446744073709551615) (s2 : s.f1.length = 24) (b1 : nextOf s = 0) :
    Calls Try.prog 17 #[.slice A0 ps.length c0] w (LPost w ps.length none) := by
  have hpos : 0 < ps.length := List.length_pos_iff.2 hne
  obtain ⟨J0, hJ0⟩ : ∃ J0 : Int, J0 = ((ps.length - 1 : Nat) : Int) := ⟨_, rfl⟩
  rw [← hJ0] at es
  have q0 := eq_true (show 0 ≤ J0 by omega)
  have q1 := eq_true (show J0 < (ps.length : Int) by omega)
  obtain ⟨ad, A1, c1, ea, x0, x1, hl1, hC1⟩ := at_T52 hC J0 (by omega) (by omega)
  rw [es] at x0 x1 hl1 hC1
  have hby := hb s hs
  obtain ⟨bs, hbs⟩ : ∃ bs, s.f1 = bs := ⟨_, rfl⟩
  obtain ⟨nx, hnx⟩ : ∃ nx, nextOf s = nx := ⟨_, rfl⟩
  obtain ⟨nw, hnw⟩ : ∃ nw, newestOf s = nw := ⟨_, rfl⟩
  obtain ⟨cu, hcu⟩ : ∃ cu, curOf s = cu := ⟨_, rfl⟩
  have e8 : bs.drop 16 = (bs.drop 16).take 8 := by rw [List.take_of_length_le]; rw [← hbs, List.length_drop]; omega
  have hhd : head0 s = ⟨[], [], nx, cu⟩ := by unfold head0; rw [hnx, hcu]
  rw [s1] at x0
  rw [hbs] at s2 x1 hl1 hC1 hby
  rw [hnx] at b1
  have m1 : (bs.take 8).length = 8 := by rw [List.length_take]; omega
  have m2 : ((bs.take 16).drop 8).length = 8 := by rw [List.length_drop, List.length_take]; omega
  have m3 : (bs.drop 16).length = 8 := by rw [List.length_drop]; omega
  have by1 := bytes_take hby 8
  have by2 := bytes_drop (bytes_take hby 16) 8
  have by3 := bytes_drop hby 16
  have hnum1 : ledger_number.f 9 (bs.take 8) = some nx := by rw [← hnx, nextOf, hbs]; exact num_is _ by1 (by omega) 9 (by omega)
  have hnum2 : ledger_number.f 9 ((bs.take 16).drop 8) = some nw := by rw [← hnw, newestOf, hbs]; exact num_is _ by2 (by omega) 9 (by omega)
  have hnum3 : ledger_number.f 9 (bs.drop 16) = some cu := by rw [← hcu, curOf, hbs]; exact num_is _ by3 (by omega) 9 (by omega)
  have HNX := Aside0.mk (show 0 ≤ nx ∧ nx ≤ 18446744073709551615 by rw [← hnx, nextOf, hbs]; exact num64 by1 (by omega))
  have HCU := Aside0.mk (show 0 ≤ cu ∧ cu ≤ 18446744073709551615 by rw [← hcu, curOf, hbs]; exact num64 by3 (by omega))
  obtain ⟨i0, hi5, _, hsz5, _⟩ := info_parts info5
  obtain ⟨tk1, tk2, tk3⟩ := print_take_of (P := Try.prog) (Value.int .u8) (0 : Int) 50 5 .i64 Try.underlying50 hi5 hsz5 A1 c1 bs 8 (by omega) (by omega) hl1
  have tk1' : ∀ W : World, (Instr.slice 50 (.slice A1 bs.length c1) none (some (.int .i64 8)) none).run Try.prog W = .ok (.slice A1 (bs.take 8).length c1) W := tk1
  have TK2 := Aside0.mk (show ∀ W, (Kd.int .u8).C W A1 bs.length bs → (Kd.int .u8).C W A1 (bs.take 8).length (bs.take 8) from fun W hC => Kd.C_of_reads (h1 := fun _ => rfl) (tk2 W (Kd.reads_of_C hC)))
  have TK3 := Aside0.mk (show (bs.take 8).length ≤ c1 from tk3)
  obtain ⟨A2, dr1, dr2, dr3⟩ := print_drop_of (P := Try.prog) (Value.int .u8) (0 : Int) 50 5 .i64 Try.underlying50 hi5 hsz5 A1 c1 bs 16 (by omega) (by omega) hl1
  obtain ⟨c2, hc2⟩ : ∃ c2, c1 - (16 : Int).toNat = c2 := ⟨_, rfl⟩
  rw [hc2] at dr1 dr3
  have dr1' : ∀ W : World, (Instr.slice 50 (.slice A1 bs.length c1) (some (.int .i64 16)) none none).run Try.prog W = .ok (.slice A2 (bs.drop 16).length c2) W := dr1
  have DR2 := Aside0.mk (show ∀ W, (Kd.int .u8).C W A1 bs.length bs → (Kd.int .u8).C W A2 (bs.drop 16).length (bs.drop 16) from fun W hC => Kd.C_of_reads (h1 := fun _ => rfl) (dr2 W (Kd.reads_of_C hC)))
  have DR3 := Aside0.mk (show (bs.drop 16).length ≤ c2 from dr3)
  obtain ⟨A3, md1, md2, md3⟩ := print_mid_of (P := Try.prog) (Value.int .u8) (0 : Int) 50 5 .i64 .i64 Try.underlying50 hi5 hsz5 A1 c1 bs 8 16 (by omega) (by omega) (by omega) hl1
  obtain ⟨c3, hc3⟩ : ∃ c3, c1 - (8 : Int).toNat = c3 := ⟨_, rfl⟩
  rw [hc3] at md1 md3
  have md1' : ∀ W : World, (Instr.slice 50 (.slice A1 bs.length c1) (some (.int .i64 8)) (some (.int .i64 16)) none).run Try.prog W = .ok (.slice A3 ((bs.take 16).drop 8).length c3) W := md1
  have MD2 := Aside0.mk (show ∀ W, (Kd.int .u8).C W A1 bs.length bs → (Kd.int .u8).C W A3 ((bs.take 16).drop 8).length ((bs.take 16).drop 8) from fun W hC => Kd.C_of_reads (h1 := fun _ => rfl) (md2 W (Kd.reads_of_C hC)))
  have MD3 := Aside0.mk (show ((bs.take 16).drop 8).length ≤ c3 from md3)
  have HNUM1 := Aside0.mk hnum1
  have HNUM2 := Aside0.mk hnum2
  have HNUM3 := Aside0.mk hnum3
  obtain ⟨tk, htk⟩ : ∃ tk, bs.take 8 = tk := ⟨_, rfl⟩
  obtain ⟨dr, hdr⟩ : ∃ dr, bs.drop 16 = dr := ⟨_, rfl⟩
  obtain ⟨md, hmd⟩ : ∃ md, (bs.take 16).drop 8 = md := ⟨_, rfl⟩
  rw [htk] at tk1' TK2 TK3 HNUM1
  rw [hdr] at dr1' DR2 DR3 HNUM3
  rw [hmd] at md1' MD2 MD3 HNUM2
  obtain ⟨i29, hi29, _, _, _⟩ := info_parts info52
  have cut := cut_to (P := Try.prog) 29 52 .i64 Try.underlying29 hi29 A0 ps.length c0 J0 (by omega) (by omega) hc
  obtain ⟨N0, hN0⟩ : ∃ N0, J0.toNat = N0 := ⟨_, rfl⟩
  rw [hN0] at cut
  have HN0 := Aside0.mk (show (N0 : Int) = J0 by omega)
  have hw0 : wrap64 ((ps.length : Int) - 1) = J0 := by unfold wrap64; omega
  have d0 : ((ps.length : Int) == 0) = false := beq_eq_false_iff_ne.2 (by omega)
  have d1 : ((bs.length : Int) != 24) = false := bne_eq_false_iff_eq.2 (by omega)
  have d2 : (nx == 0) = true := beq_iff_eq.2 b1
  subst ea
  have HC := Aside0.mk hC
  have HCC := Aside0.mk hc
  have HM := Aside0.mk hm
  have HK := Aside0.mk hk
  have HBY := Aside0.mk hb
  have HC1 := Aside0.mk hC1
  have HJ0 := Aside0.mk hJ0
  have HPS := Aside0.mk hpos
  have X0 := Aside0.mk x0
  have X1 := Aside0.mk x1
  clear hC hc hm hk hb hC1 hJ0 hpos hne es hs s1 s2 b1 hbs hby hnx hnw hcu hhd m1 m2 m3 by1 by2 by3 hnum1 hnum2 hnum3 tk1 tk2 tk3 dr1 dr2 dr3 md1 md2 md3 hc2 hc3 htk hdr hmd hi5 hsz5 hi29 hl1 x0 x1 e8 hN0 s
  go_enter Try.func17, Try.ntmps17
  go_wp2_with (first
    | (go_at_call 23; refine (New_calls _).mono ?_; rintro e w1 ⟨g, b, rfl, hL, hb⟩; have HL1 := Aside0.mk hL; have HB1 := Aside0.mk hb; have x0 := (hb.cell (World.block_lt_of_cell? w _ X0.out)).trans X0.out; have x1 := (hb.cell (World.block_lt_of_cell? w _ X1.out)).trans X1.out; clear hL hb)
    | (go_at_call 29; (with_reducible refine (ledger_number.calls 9 A3 c3 md nw _ ?s1 ?s2 HNUM2.out).mono ?_); (case s1 => exact MD2.out _ (Kd.C_below HC1.out (below_alloc HB1.out _))); (case s2 => exact MD3.out); rintro e w5 ⟨rfl, hd⟩; have HBD := Aside0.mk (drawn_below hd); have HL5 := Aside0.mk ((HL1.out.below (below_alloc (Below.refl _ _) _)).below HBD.out); have BK5 := Aside0.mk (blk_below (blk_new w1 (.cells #[.int .u64 18446744073709551615, .slice A1 bs.length c1] 52)) HBD.out); have HB5 := Aside0.mk ((below_alloc HB1.out _).trans (HBD.out.mono (below_alloc HB1.out _).size)); have HG := Aside0.mk (HL1.out.lt (.inl rfl)); have HWB := Aside0.mk HB1.out.size; clear hd x0 x1))
  generalize w1.heap.size = gb at BK5 HG HWB ⊢
  clear HBD HL1 HB1
  obtain ⟨⟨h0, h1, h2, h3⟩, hf⟩ := HL5.out.cells
  have hsz5' : g < w5.heap.size := (HL5.out.lt (.inl rfl)).2
  have HC5 := Aside0.mk (Kd.C_below HC1.out HB5.out)
  have HBb := Aside0.mk (Below.refl w5.heap.size w5)
  have HSa := Aside0.mk (show ∀ W, Below w5.heap.size w5 W → W.cell? ⟨gb, 1, none⟩ = some (.slice A1 bs.length c1) from fun W hW => (blk_cell (blk_below BK5.out hW) 1).trans rfl)
  have HKp := Aside0.mk (show ∀ (W : World) (i : Nat) (u : Value), W.cell? ⟨gb, 1, none⟩ = some (.slice A1 bs.length c1) → (W.setCell ⟨g, i, none⟩ u).cell? ⟨gb, 1, none⟩ = some (.slice A1 bs.length c1) from fun W i u hW => (World.cell?_of_block (Below.heap_setCell W ⟨g, i, none⟩ u gb (by have := HG.out.2; show gb ≠ g; omega))).trans hW)
  go_region_held3 (fun W => W.cell? ⟨gb, 1, none⟩ = some (.slice A1 bs.length c1)) ((first | (repeat (refine HKp.out _ _ _ ?_)); refine HSa.out _ ?_; repeat (first | exact HBb.out | exact Below.refl _ _ | apply below_drew1 | apply pw_below_drewN | apply below_alloc))) (first
    | (go_at_call 29; (with_reducible refine (ledger_number.calls 9 A1 c1 tk nx _ ?s1 ?s2 HNUM1.out).mono ?_); (case s1 => exact TK2.out _ (Kd.C_below HC5.out (show Below w5.heap.size w5 _ from by repeat (first | exact HBb.out | exact Below.refl _ _ | apply below_drew1 | apply pw_below_drewN | apply below_alloc)))); (case s2 => exact TK3.out); rintro e w6 ⟨rfl, hd⟩; obtain ⟨n6, rfl⟩ := hd.out; clear hd)
    | (go_at_call 29; (with_reducible refine (ledger_number.calls 9 A2 c2 dr cu _ ?s1 ?s2 HNUM3.out).mono ?_); (case s1 => exact DR2.out _ (Kd.C_below HC5.out (show Below w5.heap.size w5 _ from by repeat (first | exact HBb.out | exact Below.refl _ _ | apply below_drew1 | apply pw_below_drewN | apply below_alloc)))); (case s2 => exact DR3.out); rintro e w7 ⟨rfl, hd⟩; obtain ⟨n7, rfl⟩ := hd.out; clear hd))
  clear h0 h1 h2 h3 hf hsz5' HSa HKp HBb HC5
  obtain ⟨hL9, hm9⟩ := head_led (HL5.out.below (pw_below_drewN (Below.refl _ _) (1 + n6 + n7))) HNX.out HCU.out
  have HL9 := Aside0.mk hL9
  have HB9 := Aside0.mk (mv_below (HB5.out.trans ((pw_below_drewN (Below.refl w5.heap.size w5) (1 + n6 + n7)).mono HB5.out.size)) hm9 (fun j hj => by rw [hj]; exact HG.out.1) (by simpa using HB5.out.size))
  rename_i hheld
  clear hL9 hm9 hheld
  generalize (((w5.drewN (1 + n6 + n7)).setCell ⟨g, 2, none⟩ (.int .u64 nx)).setCell ⟨g, 3, none⟩ (.int .u64 cu)) = w9 at HL9 HB9 ⊢
  obtain ⟨⟨h0, h1, h2, h3⟩, hf⟩ := HL9.out.cells
  go_wp2
  go_quiet (fail)
  have HB10 := Aside0.mk (HB9.out.trans ((pw_below_drewN (Below.refl w9.heap.size w9) nq).mono HB9.out.size))
  go_wp2
  refine bodyPost_ret (results_tmp2 rfl _ _ _) rfl ?_
  exact ⟨rfl, HB10.out⟩
set_option maxHeartbeats 4000000 in
set_option maxRecDepth 100000 in
theorem Load_n2 {w : World} {A0 : Option Addr} {c0 : Nat} {ps : List S52} (hC : Kd.C k52 w A0 ps.length ps) (hc : ps.length ≤ c0) (hm : ps.length ≤ 3000000) (hk : ∀ x ∈ ps, 0 ≤ x.f0 ∧ x.f0 ≤ 18446744073709551615) (hb : ∀ x ∈ ps, Bytes x.f1) (hne : ps ≠ []) {s : S52} (es : rd_T52 ps (((ps.length - 1 : Nat) : Int)) = s) (hs : s ∈ ps) (s1 : s.f0 = 18446744073709551615) (s2 : s.f1.length = 24) (n1 : ¬ nextOf s = 0) (b2 : ¬ nextOf s < 9223372036854775808) :
    Calls Try.prog 17 #[.slice A0 ps.length c0] w (LPost w ps.length none) := by
  have hpos : 0 < ps.length := List.length_pos_iff.2 hne
  obtain ⟨J0, hJ0⟩ : ∃ J0 : Int, J0 = ((ps.length - 1 : Nat) : Int) := ⟨_, rfl⟩
  rw [← hJ0] at es
  have q0 := eq_true (show 0 ≤ J0 by omega)
  have q1 := eq_true (show J0 < (ps.length : Int) by omega)
  obtain ⟨ad, A1, c1, ea, x0, x1, hl1, hC1⟩ := at_T52 hC J0 (by omega) (by omega)
  rw [es] at x0 x1 hl1 hC1
  have hby := hb s hs
  obtain ⟨bs, hbs⟩ : ∃ bs, s.f1 = bs := ⟨_, rfl⟩
  obtain ⟨nx, hnx⟩ : ∃ nx, nextOf s = nx := ⟨_, rfl⟩
  obtain ⟨nw, hnw⟩ : ∃ nw, newestOf s = nw := ⟨_, rfl⟩
  obtain ⟨cu, hcu⟩ : ∃ cu, curOf s = cu := ⟨_, rfl⟩
  have e8 : bs.drop 16 = (bs.drop 16).take 8 := by rw [List.take_of_length_le]; rw [← hbs, List.length_drop]; omega
  have hhd : head0 s = ⟨[], [], nx, cu⟩ := by unfold head0; rw [hnx, hcu]
  rw [s1] at x0
  rw [hbs] at s2 x1 hl1 hC1 hby
  rw [hnx] at n1
  rw [hnx] at b2
  have m1 : (bs.take 8).length = 8 := by rw [List.length_take]; omega
  have m2 : ((bs.take 16).drop 8).length = 8 := by rw [List.length_drop, List.length_take]; omega
  have m3 : (bs.drop 16).length = 8 := by rw [List.length_drop]; omega
  have by1 := bytes_take hby 8
  have by2 := bytes_drop (bytes_take hby 16) 8
  have by3 := bytes_drop hby 16
  have hnum1 : ledger_number.f 9 (bs.take 8) = some nx := by rw [← hnx, nextOf, hbs]; exact num_is _ by1 (by omega) 9 (by omega)
  have hnum2 : ledger_number.f 9 ((bs.take 16).drop 8) = some nw := by rw [← hnw, newestOf, hbs]; exact num_is _ by2 (by omega) 9 (by omega)
  have hnum3 : ledger_number.f 9 (bs.drop 16) = some cu := by rw [← hcu, curOf, hbs]; exact num_is _ by3 (by omega) 9 (by omega)
  have HNX := Aside0.mk (show 0 ≤ nx ∧ nx ≤ 18446744073709551615 by rw [← hnx, nextOf, hbs]; exact num64 by1 (by omega))
  have HCU := Aside0.mk (show 0 ≤ cu ∧ cu ≤ 18446744073709551615 by rw [← hcu, curOf, hbs]; exact num64 by3 (by omega))
  obtain ⟨i0, hi5, _, hsz5, _⟩ := info_parts info5
  obtain ⟨tk1, tk2, tk3⟩ := print_take_of (P := Try.prog) (Value.int .u8) (0 : Int) 50 5 .i64 Try.underlying50 hi5 hsz5 A1 c1 bs 8 (by omega) (by omega) hl1
  have tk1' : ∀ W : World, (Instr.slice 50 (.slice A1 bs.length c1) none (some (.int .i64 8)) none).run Try.prog W = .ok (.slice A1 (bs.take 8).length c1) W := tk1
  have TK2 := Aside0.mk (show ∀ W, (Kd.int .u8).C W A1 bs.length bs → (Kd.int .u8).C W A1 (bs.take 8).length (bs.take 8) from fun W hC => Kd.C_of_reads (h1 := fun _ => rfl) (tk2 W (Kd.reads_of_C hC)))
  have TK3 := Aside0.mk (show (bs.take 8).length ≤ c1 from tk3)
  obtain ⟨A2, dr1, dr2, dr3⟩ := print_drop_of (P := Try.prog) (Value.int .u8) (0 : Int) 50 5 .i64 Try.underlying50 hi5 hsz5 A1 c1 bs 16 (by omega) (by omega) hl1
  obtain ⟨c2, hc2⟩ : ∃ c2, c1 - (16 : Int).toNat = c2 := ⟨_, rfl⟩
  rw [hc2] at dr1 dr3
  have dr1' : ∀ W : World, (Instr.slice 50 (.slice A1 bs.length c1) (some (.int .i64 16)) none none).run Try.prog W = .ok (.slice A2 (bs.drop 16).length c2) W := dr1
  have DR2 := Aside0.mk (show ∀ W, (Kd.int .u8).C W A1 bs.length bs → (Kd.int .u8).C W A2 (bs.drop 16).length (bs.drop 16) from fun W hC => Kd.C_of_reads (h1 := fun _ => rfl) (dr2 W (Kd.reads_of_C hC)))
  have DR3 := Aside0.mk (show (bs.drop 16).length ≤ c2 from dr3)
  obtain ⟨A3, md1, md2, md3⟩ := print_mid_of (P := Try.prog) (Value.int .u8) (0 : Int) 50 5 .i64 .i64 Try.underlying50 hi5 hsz5 A1 c1 bs 8 16 (by omega) (by omega) (by omega) hl1
  obtain ⟨c3, hc3⟩ : ∃ c3, c1 - (8 : Int).toNat = c3 := ⟨_, rfl⟩
  rw [hc3] at md1 md3
  have md1' : ∀ W : World, (Instr.slice 50 (.slice A1 bs.length c1) (some (.int .i64 8)) (some (.int .i64 16)) none).run Try.prog W = .ok (.slice A3 ((bs.take 16).drop 8).length c3) W := md1
  have MD2 := Aside0.mk (show ∀ W, (Kd.int .u8).C W A1 bs.length bs → (Kd.int .u8).C W A3 ((bs.take 16).drop 8).length ((bs.take 16).drop 8) from fun W hC => Kd.C_of_reads (h1 := fun _ => rfl) (md2 W (Kd.reads_of_C hC)))
  have MD3 := Aside0.mk (show ((bs.take 16).drop 8).length ≤ c3 from md3)
  have HNUM1 := Aside0.mk hnum1
  have HNUM2 := Aside0.mk hnum2
  have HNUM3 := Aside0.mk hnum3
  obtain ⟨tk, htk⟩ : ∃ tk, bs.take 8 = tk := ⟨_, rfl⟩
  obtain ⟨dr, hdr⟩ : ∃ dr, bs.drop 16 = dr := ⟨_, rfl⟩
  obtain ⟨md, hmd⟩ : ∃ md, (bs.take 16).drop 8 = md := ⟨_, rfl⟩
  rw [htk] at tk1' TK2 TK3 HNUM1
  rw [hdr] at dr1' DR2 DR3 HNUM3
  rw [hmd] at md1' MD2 MD3 HNUM2
  obtain ⟨i29, hi29, _, _, _⟩ := info_parts info52
  have cut := cut_to (P := Try.prog) 29 52 .i64 Try.underlying29 hi29 A0 ps.length c0 J0 (by omega) (by omega) hc
  obtain ⟨N0, hN0⟩ : ∃ N0, J0.toNat = N0 := ⟨_, rfl⟩
  rw [hN0] at cut
  have HN0 := Aside0.mk (show (N0 : Int) = J0 by omega)
  have hw0 : wrap64 ((ps.length : Int) - 1) = J0 := by unfold wrap64; omega
  have d0 : ((ps.length : Int) == 0) = false := beq_eq_false_iff_ne.2 (by omega)
  have d1 : ((bs.length : Int) != 24) = false := bne_eq_false_iff_eq.2 (by omega)
  have d2 : (nx == 0) = false := beq_eq_false_iff_ne.2 n1
  have d3 : decide (9223372036854775808 ≤ nx) = true := decide_eq_true (by omega)
  subst ea
  have HC := Aside0.mk hC
  have HCC := Aside0.mk hc
  have HM := Aside0.mk hm
  have HK := Aside0.mk hk
  have HBY := Aside0.mk hb
  have HC1 := Aside0.mk hC1
  have HJ0 := Aside0.mk hJ0
  have HPS := Aside0.mk hpos
  have X0 := Aside0.mk x0
  have X1 := Aside0.mk x1
  clear hC hc hm hk hb hC1 hJ0 hpos hne es hs s1 s2 n1 b2 hbs hby hnx hnw hcu hhd m1 m2 m3 by1 by2 by3 hnum1 hnum2 hnum3 tk1 tk2 tk3 dr1 dr2 dr3 md1 md2 md3 hc2 hc3 htk hdr hmd hi5 hsz5 hi29 hl1 x0 x1 e8 hN0 s
  go_enter Try.func17, Try.ntmps17
  go_wp2_with (first
    | (go_at_call 23; refine (New_calls _).mono ?_; rintro e w1 ⟨g, b, rfl, hL, hb⟩; have HL1 := Aside0.mk hL; have HB1 := Aside0.mk hb; have x0 := (hb.cell (World.block_lt_of_cell? w _ X0.out)).trans X0.out; have x1 := (hb.cell (World.block_lt_of_cell? w _ X1.out)).trans X1.out; clear hL hb)
    | (go_at_call 29; (with_reducible refine (ledger_number.calls 9 A3 c3 md nw _ ?s1 ?s2 HNUM2.out).mono ?_); (case s1 => exact MD2.out _ (Kd.C_below HC1.out (below_alloc HB1.out _))); (case s2 => exact MD3.out); rintro e w5 ⟨rfl, hd⟩; have HBD := Aside0.mk (drawn_below hd); have HL5 := Aside0.mk ((HL1.out.below (below_alloc (Below.refl _ _) _)).below HBD.out); have BK5 := Aside0.mk (blk_below (blk_new w1 (.cells #[.int .u64 18446744073709551615, .slice A1 bs.length c1] 52)) HBD.out); have HB5 := Aside0.mk ((below_alloc HB1.out _).trans (HBD.out.mono (below_alloc HB1.out _).size)); have HG := Aside0.mk (HL1.out.lt (.inl rfl)); have HWB := Aside0.mk HB1.out.size; clear hd x0 x1))
  generalize w1.heap.size = gb at BK5 HG HWB ⊢
  clear HBD HL1 HB1
  obtain ⟨⟨h0, h1, h2, h3⟩, hf⟩ := HL5.out.cells
  have hsz5' : g < w5.heap.size := (HL5.out.lt (.inl rfl)).2
  have HC5 := Aside0.mk (Kd.C_below HC1.out HB5.out)
  have HBb := Aside0.mk (Below.refl w5.heap.size w5)
  have HSa := Aside0.mk (show ∀ W, Below w5.heap.size w5 W → W.cell? ⟨gb, 1, none⟩ = some (.slice A1 bs.length c1) from fun W hW => (blk_cell (blk_below BK5.out hW) 1).trans rfl)
  have HKp := Aside0.mk (show ∀ (W : World) (i : Nat) (u : Value), W.cell? ⟨gb, 1, none⟩ = some (.slice A1 bs.length c1) → (W.setCell ⟨g, i, none⟩ u).cell? ⟨gb, 1, none⟩ = some (.slice A1 bs.length c1) from fun W i u hW => (World.cell?_of_block (Below.heap_setCell W ⟨g, i, none⟩ u gb (by have := HG.out.2; show gb ≠ g; omega))).trans hW)
  go_region_held3 (fun W => W.cell? ⟨gb, 1, none⟩ = some (.slice A1 bs.length c1)) ((first | (repeat (refine HKp.out _ _ _ ?_)); refine HSa.out _ ?_; repeat (first | exact HBb.out | exact Below.refl _ _ | apply below_drew1 | apply pw_below_drewN | apply below_alloc))) (first
    | (go_at_call 29; (with_reducible refine (ledger_number.calls 9 A1 c1 tk nx _ ?s1 ?s2 HNUM1.out).mono ?_); (case s1 => exact TK2.out _ (Kd.C_below HC5.out (show Below w5.heap.size w5 _ from by repeat (first | exact HBb.out | exact Below.refl _ _ | apply below_drew1 | apply pw_below_drewN | apply below_alloc)))); (case s2 => exact TK3.out); rintro e w6 ⟨rfl, hd⟩; obtain ⟨n6, rfl⟩ := hd.out; clear hd)
    | (go_at_call 29; (with_reducible refine (ledger_number.calls 9 A2 c2 dr cu _ ?s1 ?s2 HNUM3.out).mono ?_); (case s1 => exact DR2.out _ (Kd.C_below HC5.out (show Below w5.heap.size w5 _ from by repeat (first | exact HBb.out | exact Below.refl _ _ | apply below_drew1 | apply pw_below_drewN | apply below_alloc)))); (case s2 => exact DR3.out); rintro e w7 ⟨rfl, hd⟩; obtain ⟨n7, rfl⟩ := hd.out; clear hd))
  clear h0 h1 h2 h3 hf hsz5' HSa HKp HBb HC5
  obtain ⟨hL9, hm9⟩ := head_led (HL5.out.below (pw_below_drewN (Below.refl _ _) (1 + n6 + n7))) HNX.out HCU.out
  have HL9 := Aside0.mk hL9
  have HB9 := Aside0.mk (mv_below (HB5.out.trans ((pw_below_drewN (Below.refl w5.heap.size w5) (1 + n6 + n7)).mono HB5.out.size)) hm9 (fun j hj => by rw [hj]; exact HG.out.1) (by simpa using HB5.out.size))
  rename_i hheld
  clear hL9 hm9 hheld
  generalize (((w5.drewN (1 + n6 + n7)).setCell ⟨g, 2, none⟩ (.int .u64 nx)).setCell ⟨g, 3, none⟩ (.int .u64 cu)) = w9 at HL9 HB9 ⊢
  obtain ⟨⟨h0, h1, h2, h3⟩, hf⟩ := HL9.out.cells
  go_wp2
  go_quiet (fail)
  have HB10 := Aside0.mk (HB9.out.trans ((pw_below_drewN (Below.refl w9.heap.size w9) nq).mono HB9.out.size))
  go_wp2
  refine bodyPost_ret (results_tmp2 rfl _ _ _) rfl ?_
  exact ⟨rfl, HB10.out⟩
set_option maxHeartbeats 4000000 in
set_option maxRecDepth 100000 in
theorem Load_n3 {w : World} {A0 : Option Addr} {c0 : Nat} {ps : List S52} (hC : Kd.C k52 w A0 ps.length ps) (hc : ps.length ≤ c0) (hm : ps.length ≤ 3000000) (hk : ∀ x ∈ ps, 0 ≤ x.f0 ∧ x.f0 ≤ 18446744073709551615) (hb : ∀ x ∈ ps, Bytes x.f1) (hne : ps ≠ []) {s : S52} (es : rd_T52 ps (((ps.length - 1 : Nat) : Int)) = s) (hs : s ∈ ps) (s1 : s.f0 = 18446744073709551615) (s2 : s.f1.length = 24) (n1 : ¬ nextOf s = 0) (n2 : nextOf s < 9223372036854775808) (b3 : ¬ newestOf s ≤ 100) :
    Calls Try.prog 17 #[.slice A0 ps.length c0] w (LPost w ps.length none) := by
  have hpos : 0 < ps.length := List.length_pos_iff.2 hne
  obtain ⟨J0, hJ0⟩ : ∃ J0 : Int, J0 = ((ps.length - 1 : Nat) : Int) := ⟨_, rfl⟩
  rw [← hJ0] at es
  have q0 := eq_true (show 0 ≤ J0 by omega)
  have q1 := eq_true (show J0 < (ps.length : Int) by omega)
  obtain ⟨ad, A1, c1, ea, x0, x1, hl1, hC1⟩ := at_T52 hC J0 (by omega) (by omega)
  rw [es] at x0 x1 hl1 hC1
  have hby := hb s hs
  obtain ⟨bs, hbs⟩ : ∃ bs, s.f1 = bs := ⟨_, rfl⟩
  obtain ⟨nx, hnx⟩ : ∃ nx, nextOf s = nx := ⟨_, rfl⟩
  obtain ⟨nw, hnw⟩ : ∃ nw, newestOf s = nw := ⟨_, rfl⟩
  obtain ⟨cu, hcu⟩ : ∃ cu, curOf s = cu := ⟨_, rfl⟩
  have e8 : bs.drop 16 = (bs.drop 16).take 8 := by rw [List.take_of_length_le]; rw [← hbs, List.length_drop]; omega
  have hhd : head0 s = ⟨[], [], nx, cu⟩ := by unfold head0; rw [hnx, hcu]
  rw [s1] at x0
  rw [hbs] at s2 x1 hl1 hC1 hby
  rw [hnx] at n1
  rw [hnx] at n2
  rw [hnw] at b3
  have m1 : (bs.take 8).length = 8 := by rw [List.length_take]; omega
  have m2 : ((bs.take 16).drop 8).length = 8 := by rw [List.length_drop, List.length_take]; omega
  have m3 : (bs.drop 16).length = 8 := by rw [List.length_drop]; omega
  have by1 := bytes_take hby 8
  have by2 := bytes_drop (bytes_take hby 16) 8
  have by3 := bytes_drop hby 16
  have hnum1 : ledger_number.f 9 (bs.take 8) = some nx := by rw [← hnx, nextOf, hbs]; exact num_is _ by1 (by omega) 9 (by omega)
  have hnum2 : ledger_number.f 9 ((bs.take 16).drop 8) = some nw := by rw [← hnw, newestOf, hbs]; exact num_is _ by2 (by omega) 9 (by omega)
  have hnum3 : ledger_number.f 9 (bs.drop 16) = some cu := by rw [← hcu, curOf, hbs]; exact num_is _ by3 (by omega) 9 (by omega)
  have HNX := Aside0.mk (show 0 ≤ nx ∧ nx ≤ 18446744073709551615 by rw [← hnx, nextOf, hbs]; exact num64 by1 (by omega))
  have HCU := Aside0.mk (show 0 ≤ cu ∧ cu ≤ 18446744073709551615 by rw [← hcu, curOf, hbs]; exact num64 by3 (by omega))
  obtain ⟨i0, hi5, _, hsz5, _⟩ := info_parts info5
  obtain ⟨tk1, tk2, tk3⟩ := print_take_of (P := Try.prog) (Value.int .u8) (0 : Int) 50 5 .i64 Try.underlying50 hi5 hsz5 A1 c1 bs 8 (by omega) (by omega) hl1
  have tk1' : ∀ W : World, (Instr.slice 50 (.slice A1 bs.length c1) none (some (.int .i64 8)) none).run Try.prog W = .ok (.slice A1 (bs.take 8).length c1) W := tk1
  have TK2 := Aside0.mk (show ∀ W, (Kd.int .u8).C W A1 bs.length bs → (Kd.int .u8).C W A1 (bs.take 8).length (bs.take 8) from fun W hC => Kd.C_of_reads (h1 := fun _ => rfl) (tk2 W (Kd.reads_of_C hC)))
  have TK3 := Aside0.mk (show (bs.take 8).length ≤ c1 from tk3)
  obtain ⟨A2, dr1, dr2, dr3⟩ := print_drop_of (P := Try.prog) (Value.int .u8) (0 : Int) 50 5 .i64 Try.underlying50 hi5 hsz5 A1 c1 bs 16 (by omega) (by omega) hl1
  obtain ⟨c2, hc2⟩ : ∃ c2, c1 - (16 : Int).toNat = c2 := ⟨_, rfl⟩
  rw [hc2] at dr1 dr3
  have dr1' : ∀ W : World, (Instr.slice 50 (.slice A1 bs.length c1) (some (.int .i64 16)) none none).run Try.prog W = .ok (.slice A2 (bs.drop 16).length c2) W := dr1
  have DR2 := Aside0.mk (show ∀ W, (Kd.int .u8).C W A1 bs.length bs → (Kd.int .u8).C W A2 (bs.drop 16).length (bs.drop 16) from fun W hC => Kd.C_of_reads (h1 := fun _ => rfl) (dr2 W (Kd.reads_of_C hC)))
  have DR3 := Aside0.mk (show (bs.drop 16).length ≤ c2 from dr3)
  obtain ⟨A3, md1, md2, md3⟩ := print_mid_of (P := Try.prog) (Value.int .u8) (0 : Int) 50 5 .i64 .i64 Try.underlying50 hi5 hsz5 A1 c1 bs 8 16 (by omega) (by omega) (by omega) hl1
  obtain ⟨c3, hc3⟩ : ∃ c3, c1 - (8 : Int).toNat = c3 := ⟨_, rfl⟩
  rw [hc3] at md1 md3
  have md1' : ∀ W : World, (Instr.slice 50 (.slice A1 bs.length c1) (some (.int .i64 8)) (some (.int .i64 16)) none).run Try.prog W = .ok (.slice A3 ((bs.take 16).drop 8).length c3) W := md1
  have MD2 := Aside0.mk (show ∀ W, (Kd.int .u8).C W A1 bs.length bs → (Kd.int .u8).C W A3 ((bs.take 16).drop 8).length ((bs.take 16).drop 8) from fun W hC => Kd.C_of_reads (h1 := fun _ => rfl) (md2 W (Kd.reads_of_C hC)))
  have MD3 := Aside0.mk (show ((bs.take 16).drop 8).length ≤ c3 from md3)
  have HNUM1 := Aside0.mk hnum1
  have HNUM2 := Aside0.mk hnum2
  have HNUM3 := Aside0.mk hnum3
  obtain ⟨tk, htk⟩ : ∃ tk, bs.take 8 = tk := ⟨_, rfl⟩
  obtain ⟨dr, hdr⟩ : ∃ dr, bs.drop 16 = dr := ⟨_, rfl⟩
  obtain ⟨md, hmd⟩ : ∃ md, (bs.take 16).drop 8 = md := ⟨_, rfl⟩
  rw [htk] at tk1' TK2 TK3 HNUM1
  rw [hdr] at dr1' DR2 DR3 HNUM3
  rw [hmd] at md1' MD2 MD3 HNUM2
  obtain ⟨i29, hi29, _, _, _⟩ := info_parts info52
  have cut := cut_to (P := Try.prog) 29 52 .i64 Try.underlying29 hi29 A0 ps.length c0 J0 (by omega) (by omega) hc
  obtain ⟨N0, hN0⟩ : ∃ N0, J0.toNat = N0 := ⟨_, rfl⟩
  rw [hN0] at cut
  have HN0 := Aside0.mk (show (N0 : Int) = J0 by omega)
  have hw0 : wrap64 ((ps.length : Int) - 1) = J0 := by unfold wrap64; omega
  have d0 : ((ps.length : Int) == 0) = false := beq_eq_false_iff_ne.2 (by omega)
  have d1 : ((bs.length : Int) != 24) = false := bne_eq_false_iff_eq.2 (by omega)
  have d2 : (nx == 0) = false := beq_eq_false_iff_ne.2 n1
  have d3 : decide (9223372036854775808 ≤ nx) = false := decide_eq_false (by omega)
  have d4 : decide (100 < nw) = true := decide_eq_true (by omega)
  subst ea
  have HC := Aside0.mk hC
  have HCC := Aside0.mk hc
  have HM := Aside0.mk hm
  have HK := Aside0.mk hk
  have HBY := Aside0.mk hb
  have HC1 := Aside0.mk hC1
  have HJ0 := Aside0.mk hJ0
  have HPS := Aside0.mk hpos
  have X0 := Aside0.mk x0
  have X1 := Aside0.mk x1
  clear hC hc hm hk hb hC1 hJ0 hpos hne es hs s1 s2 n1 n2 b3 hbs hby hnx hnw hcu hhd m1 m2 m3 by1 by2 by3 hnum1 hnum2 hnum3 tk1 tk2 tk3 dr1 dr2 dr3 md1 md2 md3 hc2 hc3 htk hdr hmd hi5 hsz5 hi29 hl1 x0 x1 e8 hN0 s
  go_enter Try.func17, Try.ntmps17
  go_wp2_with (first
    | (go_at_call 23; refine (New_calls _).mono ?_; rintro e w1 ⟨g, b, rfl, hL, hb⟩; have HL1 := Aside0.mk hL; have HB1 := Aside0.mk hb; have x0 := (hb.cell (World.block_lt_of_cell? w _ X0.out)).trans X0.out; have x1 := (hb.cell (World.block_lt_of_cell? w _ X1.out)).trans X1.out; clear hL hb)
    | (go_at_call 29; (with_reducible refine (ledger_number.calls 9 A3 c3 md nw _ ?s1 ?s2 HNUM2.out).mono ?_); (case s1 => exact MD2.out _ (Kd.C_below HC1.out (below_alloc HB1.out _))); (case s2 => exact MD3.out); rintro e w5 ⟨rfl, hd⟩; have HBD := Aside0.mk (drawn_below hd); have HL5 := Aside0.mk ((HL1.out.below (below_alloc (Below.refl _ _) _)).below HBD.out); have BK5 := Aside0.mk (blk_below (blk_new w1 (.cells #[.int .u64 18446744073709551615, .slice A1 bs.length c1] 52)) HBD.out); have HB5 := Aside0.mk ((below_alloc HB1.out _).trans (HBD.out.mono (below_alloc HB1.out _).size)); have HG := Aside0.mk (HL1.out.lt (.inl rfl)); have HWB := Aside0.mk HB1.out.size; clear hd x0 x1))
  generalize w1.heap.size = gb at BK5 HG HWB ⊢
  clear HBD HL1 HB1
  obtain ⟨⟨h0, h1, h2, h3⟩, hf⟩ := HL5.out.cells
  have hsz5' : g < w5.heap.size := (HL5.out.lt (.inl rfl)).2
  have HC5 := Aside0.mk (Kd.C_below HC1.out HB5.out)
  have HBb := Aside0.mk (Below.refl w5.heap.size w5)
  have HSa := Aside0.mk (show ∀ W, Below w5.heap.size w5 W → W.cell? ⟨gb, 1, none⟩ = some (.slice A1 bs.length c1) from fun W hW => (blk_cell (blk_below BK5.out hW) 1).trans rfl)
  have HKp := Aside0.mk (show ∀ (W : World) (i : Nat) (u : Value), W.cell? ⟨gb, 1, none⟩ = some (.slice A1 bs.length c1) → (W.setCell ⟨g, i, none⟩ u).cell? ⟨gb, 1, none⟩ = some (.slice A1 bs.length c1) from fun W i u hW => (World.cell?_of_block (Below.heap_setCell W ⟨g, i, none⟩ u gb (by have := HG.out.2; show gb ≠ g; omega))).trans hW)
  go_region_held3 (fun W => W.cell? ⟨gb, 1, none⟩ = some (.slice A1 bs.length c1)) ((first | (repeat (refine HKp.out _ _ _ ?_)); refine HSa.out _ ?_; repeat (first | exact HBb.out | exact Below.refl _ _ | apply below_drew1 | apply pw_below_drewN | apply below_alloc))) (first
    | (go_at_call 29; (with_reducible refine (ledger_number.calls 9 A1 c1 tk nx _ ?s1 ?s2 HNUM1.out).mono ?_); (case s1 => exact TK2.out _ (Kd.C_below HC5.out (show Below w5.heap.size w5 _ from by repeat (first | exact HBb.out | exact Below.refl _ _ | apply below_drew1 | apply pw_below_drewN | apply below_alloc)))); (case s2 => exact TK3.out); rintro e w6 ⟨rfl, hd⟩; obtain ⟨n6, rfl⟩ := hd.out; clear hd)
    | (go_at_call 29; (with_reducible refine (ledger_number.calls 9 A2 c2 dr cu _ ?s1 ?s2 HNUM3.out).mono ?_); (case s1 => exact DR2.out _ (Kd.C_below HC5.out (show Below w5.heap.size w5 _ from by repeat (first | exact HBb.out | exact Below.refl _ _ | apply below_drew1 | apply pw_below_drewN | apply below_alloc)))); (case s2 => exact DR3.out); rintro e w7 ⟨rfl, hd⟩; obtain ⟨n7, rfl⟩ := hd.out; clear hd))
  clear h0 h1 h2 h3 hf hsz5' HSa HKp HBb HC5
  obtain ⟨hL9, hm9⟩ := head_led (HL5.out.below (pw_below_drewN (Below.refl _ _) (1 + n6 + n7))) HNX.out HCU.out
  have HL9 := Aside0.mk hL9
  have HB9 := Aside0.mk (mv_below (HB5.out.trans ((pw_below_drewN (Below.refl w5.heap.size w5) (1 + n6 + n7)).mono HB5.out.size)) hm9 (fun j hj => by rw [hj]; exact HG.out.1) (by simpa using HB5.out.size))
  rename_i hheld
  clear hL9 hm9 hheld
  generalize (((w5.drewN (1 + n6 + n7)).setCell ⟨g, 2, none⟩ (.int .u64 nx)).setCell ⟨g, 3, none⟩ (.int .u64 cu)) = w9 at HL9 HB9 ⊢
  obtain ⟨⟨h0, h1, h2, h3⟩, hf⟩ := HL9.out.cells
  go_wp2
  go_quiet (fail)
  have HB10 := Aside0.mk (HB9.out.trans ((pw_below_drewN (Below.refl w9.heap.size w9) nq).mono HB9.out.size))
  go_wp2
  refine bodyPost_ret (results_tmp2 rfl _ _ _) rfl ?_
  exact ⟨rfl, HB10.out⟩
set_option maxHeartbeats 4000000 in
set_option maxRecDepth 100000 in
theorem Load_n4 {w : World} {A0 : Option Addr} {c0 : Nat} {ps : List S52} (hC : Kd.C k52 w A0 ps.length ps) (hc : ps.length ≤ c0) (hm : ps.length ≤ 3000000) (hk : ∀ x ∈ ps, 0 ≤ x.f0 ∧ x.f0 ≤ 18446744073709551615) (hb : ∀ x ∈ ps, Bytes x.f1) (hne : ps ≠ []) {s : S52} (es : rd_T52 ps (((ps.length - 1 : Nat) : Int)) = s) (hs : s ∈ ps) (s1 : s.f0 = 18446744073709551615) (s2 : s.f1.length = 24) (n1 : ¬ nextOf s = 0) (n2 : nextOf s < 9223372036854775808) (n3 : newestOf s ≤ 100) (b4 : ¬ curOf s < nextOf s) :
    Calls Try.prog 17 #[.slice A0 ps.length c0] w (LPost w ps.length none) := by
  have hpos : 0 < ps.length := List.length_pos_iff.2 hne
  obtain ⟨J0, hJ0⟩ : ∃ J0 : Int, J0 = ((ps.length - 1 : Nat) : Int) := ⟨_, rfl⟩
  rw [← hJ0] at es
  have q0 := eq_true (show 0 ≤ J0 by omega)
  have q1 := eq_true (show J0 < (ps.length : Int) by omega)
  obtain ⟨ad, A1, c1, ea, x0, x1, hl1, hC1⟩ := at_T52 hC J0 (by omega) (by omega)
  rw [es] at x0 x1 hl1 hC1
  have hby := hb s hs
  obtain ⟨bs, hbs⟩ : ∃ bs, s.f1 = bs := ⟨_, rfl⟩
  obtain ⟨nx, hnx⟩ : ∃ nx, nextOf s = nx := ⟨_, rfl⟩
  obtain ⟨nw, hnw⟩ : ∃ nw, newestOf s = nw := ⟨_, rfl⟩
  obtain ⟨cu, hcu⟩ : ∃ cu, curOf s = cu := ⟨_, rfl⟩
  have e8 : bs.drop 16 = (bs.drop 16).take 8 := by rw [List.take_of_length_le]; rw [← hbs, List.length_drop]; omega
  have hhd : head0 s = ⟨[], [], nx, cu⟩ := by unfold head0; rw [hnx, hcu]
  rw [s1] at x0
  rw [hbs] at s2 x1 hl1 hC1 hby
  rw [hnx] at n1
  rw [hnx] at n2
  rw [hnw] at n3
  rw [hcu] at b4
  rw [hnx] at b4
  have m1 : (bs.take 8).length = 8 := by rw [List.length_take]; omega
  have m2 : ((bs.take 16).drop 8).length = 8 := by rw [List.length_drop, List.length_take]; omega
  have m3 : (bs.drop 16).length = 8 := by rw [List.length_drop]; omega
  have by1 := bytes_take hby 8
  have by2 := bytes_drop (bytes_take hby 16) 8
  have by3 := bytes_drop hby 16
  have hnum1 : ledger_number.f 9 (bs.take 8) = some nx := by rw [← hnx, nextOf, hbs]; exact num_is _ by1 (by omega) 9 (by omega)
  have hnum2 : ledger_number.f 9 ((bs.take 16).drop 8) = some nw := by rw [← hnw, newestOf, hbs]; exact num_is _ by2 (by omega) 9 (by omega)
  have hnum3 : ledger_number.f 9 (bs.drop 16) = some cu := by rw [← hcu, curOf, hbs]; exact num_is _ by3 (by omega) 9 (by omega)
  have HNX := Aside0.mk (show 0 ≤ nx ∧ nx ≤ 18446744073709551615 by rw [← hnx, nextOf, hbs]; exact num64 by1 (by omega))
  have HCU := Aside0.mk (show 0 ≤ cu ∧ cu ≤ 18446744073709551615 by rw [← hcu, curOf, hbs]; exact num64 by3 (by omega))
  obtain ⟨i0, hi5, _, hsz5, _⟩ := info_parts info5
  obtain ⟨tk1, tk2, tk3⟩ := print_take_of (P := Try.prog) (Value.int .u8) (0 : Int) 50 5 .i64 Try.underlying50 hi5 hsz5 A1 c1 bs 8 (by omega) (by omega) hl1
  have tk1' : ∀ W : World, (Instr.slice 50 (.slice A1 bs.length c1) none (some (.int .i64 8)) none).run Try.prog W = .ok (.slice A1 (bs.take 8).length c1) W := tk1
  have TK2 := Aside0.mk (show ∀ W, (Kd.int .u8).C W A1 bs.length bs → (Kd.int .u8).C W A1 (bs.take 8).length (bs.take 8) from fun W hC => Kd.C_of_reads (h1 := fun _ => rfl) (tk2 W (Kd.reads_of_C hC)))
  have TK3 := Aside0.mk (show (bs.take 8).length ≤ c1 from tk3)
  obtain ⟨A2, dr1, dr2, dr3⟩ := print_drop_of (P := Try.prog) (Value.int .u8) (0 : Int) 50 5 .i64 Try.underlying50 hi5 hsz5 A1 c1 bs 16 (by omega) (by omega) hl1
  obtain ⟨c2, hc2⟩ : ∃ c2, c1 - (16 : Int).toNat = c2 := ⟨_, rfl⟩
  rw [hc2] at dr1 dr3
  have dr1' : ∀ W : World, (Instr.slice 50 (.slice A1 bs.length c1) (some (.int .i64 16)) none none).run Try.prog W = .ok (.slice A2 (bs.drop 16).length c2) W := dr1
  have DR2 := Aside0.mk (show ∀ W, (Kd.int .u8).C W A1 bs.length bs → (Kd.int .u8).C W A2 (bs.drop 16).length (bs.drop 16) from fun W hC => Kd.C_of_reads (h1 := fun _ => rfl) (dr2 W (Kd.reads_of_C hC)))
  have DR3 := Aside0.mk (show (bs.drop 16).length ≤ c2 from dr3)
  obtain ⟨A3, md1, md2, md3⟩ := print_mid_of (P := Try.prog) (Value.int .u8) (0 : Int) 50 5 .i64 .i64 Try.underlying50 hi5 hsz5 A1 c1 bs 8 16 (by omega) (by omega) (by omega) hl1
  obtain ⟨c3, hc3⟩ : ∃ c3, c1 - (8 : Int).toNat = c3 := ⟨_, rfl⟩
  rw [hc3] at md1 md3
  have md1' : ∀ W : World, (Instr.slice 50 (.slice A1 bs.length c1) (some (.int .i64 8)) (some (.int .i64 16)) none).run Try.prog W = .ok (.slice A3 ((bs.take 16).drop 8).length c3) W := md1
  have MD2 := Aside0.mk (show ∀ W, (Kd.int .u8).C W A1 bs.length bs → (Kd.int .u8).C W A3 ((bs.take 16).drop 8).length ((bs.take 16).drop 8) from fun W hC => Kd.C_of_reads (h1 := fun _ => rfl) (md2 W (Kd.reads_of_C hC)))
  have MD3 := Aside0.mk (show ((bs.take 16).drop 8).length ≤ c3 from md3)
  have HNUM1 := Aside0.mk hnum1
  have HNUM2 := Aside0.mk hnum2
  have HNUM3 := Aside0.mk hnum3
  obtain ⟨tk, htk⟩ : ∃ tk, bs.take 8 = tk := ⟨_, rfl⟩
  obtain ⟨dr, hdr⟩ : ∃ dr, bs.drop 16 = dr := ⟨_, rfl⟩
  obtain ⟨md, hmd⟩ : ∃ md, (bs.take 16).drop 8 = md := ⟨_, rfl⟩
  rw [htk] at tk1' TK2 TK3 HNUM1
  rw [hdr] at dr1' DR2 DR3 HNUM3
  rw [hmd] at md1' MD2 MD3 HNUM2
  obtain ⟨i29, hi29, _, _, _⟩ := info_parts info52
  have cut := cut_to (P := Try.prog) 29 52 .i64 Try.underlying29 hi29 A0 ps.length c0 J0 (by omega) (by omega) hc
  obtain ⟨N0, hN0⟩ : ∃ N0, J0.toNat = N0 := ⟨_, rfl⟩
  rw [hN0] at cut
  have HN0 := Aside0.mk (show (N0 : Int) = J0 by omega)
  have hw0 : wrap64 ((ps.length : Int) - 1) = J0 := by unfold wrap64; omega
  have d0 : ((ps.length : Int) == 0) = false := beq_eq_false_iff_ne.2 (by omega)
  have d1 : ((bs.length : Int) != 24) = false := bne_eq_false_iff_eq.2 (by omega)
  have d2 : (nx == 0) = false := beq_eq_false_iff_ne.2 n1
  have d3 : decide (9223372036854775808 ≤ nx) = false := decide_eq_false (by omega)
  have d4 : decide (100 < nw) = false := decide_eq_false (by omega)
  have d5 : decide (nx ≤ cu) = true := decide_eq_true (by omega)
  subst ea
  have HC := Aside0.mk hC
  have HCC := Aside0.mk hc
  have HM := Aside0.mk hm
  have HK := Aside0.mk hk
  have HBY := Aside0.mk hb
  have HC1 := Aside0.mk hC1
  have HJ0 := Aside0.mk hJ0
  have HPS := Aside0.mk hpos
  have X0 := Aside0.mk x0
  have X1 := Aside0.mk x1
  clear hC hc hm hk hb hC1 hJ0 hpos hne es hs s1 s2 n1 n2 n3 b4 hbs hby hnx hnw hcu hhd m1 m2 m3 by1 by2 by3 hnum1 hnum2 hnum3 tk1 tk2 tk3 dr1 dr2 dr3 md1 md2 md3 hc2 hc3 htk hdr hmd hi5 hsz5 hi29 hl1 x0 x1 e8 hN0 s
  go_enter Try.func17, Try.ntmps17
  go_wp2_with (first
    | (go_at_call 23; refine (New_calls _).mono ?_; rintro e w1 ⟨g, b, rfl, hL, hb⟩; have HL1 := Aside0.mk hL; have HB1 := Aside0.mk hb; have x0 := (hb.cell (World.block_lt_of_cell? w _ X0.out)).trans X0.out; have x1 := (hb.cell (World.block_lt_of_cell? w _ X1.out)).trans X1.out; clear hL hb)
    | (go_at_call 29; (with_reducible refine (ledger_number.calls 9 A3 c3 md nw _ ?s1 ?s2 HNUM2.out).mono ?_); (case s1 => exact MD2.out _ (Kd.C_below HC1.out (below_alloc HB1.out _))); (case s2 => exact MD3.out); rintro e w5 ⟨rfl, hd⟩; have HBD := Aside0.mk (drawn_below hd); have HL5 := Aside0.mk ((HL1.out.below (below_alloc (Below.refl _ _) _)).below HBD.out); have BK5 := Aside0.mk (blk_below (blk_new w1 (.cells #[.int .u64 18446744073709551615, .slice A1 bs.length c1] 52)) HBD.out); have HB5 := Aside0.mk ((below_alloc HB1.out _).trans (HBD.out.mono (below_alloc HB1.out _).size)); have HG := Aside0.mk (HL1.out.lt (.inl rfl)); have HWB := Aside0.mk HB1.out.size; clear hd x0 x1))
  generalize w1.heap.size = gb at BK5 HG HWB ⊢
  clear HBD HL1 HB1
  obtain ⟨⟨h0, h1, h2, h3⟩, hf⟩ := HL5.out.cells
  have hsz5' : g < w5.heap.size := (HL5.out.lt (.inl rfl)).2
  have HC5 := Aside0.mk (Kd.C_below HC1.out HB5.out)
  have HBb := Aside0.mk (Below.refl w5.heap.size w5)
  have HSa := Aside0.mk (show ∀ W, Below w5.heap.size w5 W → W.cell? ⟨gb, 1, none⟩ = some (.slice A1 bs.length c1) from fun W hW => (blk_cell (blk_below BK5.out hW) 1).trans rfl)
  have HKp := Aside0.mk (show ∀ (W : World) (i : Nat) (u : Value), W.cell? ⟨gb, 1, none⟩ = some (.slice A1 bs.length c1) → (W.setCell ⟨g, i, none⟩ u).cell? ⟨gb, 1, none⟩ = some (.slice A1 bs.length c1) from fun W i u hW => (World.cell?_of_block (Below.heap_setCell W ⟨g, i, none⟩ u gb (by have := HG.out.2; show gb ≠ g; omega))).trans hW)
  go_region_held3 (fun W => W.cell? ⟨gb, 1, none⟩ = some (.slice A1 bs.length c1)) ((first | (repeat (refine HKp.out _ _ _ ?_)); refine HSa.out _ ?_; repeat (first | exact HBb.out | exact Below.refl _ _ | apply below_drew1 | apply pw_below_drewN | apply below_alloc))) (first
    | (go_at_call 29; (with_reducible refine (ledger_number.calls 9 A1 c1 tk nx _ ?s1 ?s2 HNUM1.out).mono ?_); (case s1 => exact TK2.out _ (Kd.C_below HC5.out (show Below w5.heap.size w5 _ from by repeat (first | exact HBb.out | exact Below.refl _ _ | apply below_drew1 | apply pw_below_drewN | apply below_alloc)))); (case s2 => exact TK3.out); rintro e w6 ⟨rfl, hd⟩; obtain ⟨n6, rfl⟩ := hd.out; clear hd)
    | (go_at_call 29; (with_reducible refine (ledger_number.calls 9 A2 c2 dr cu _ ?s1 ?s2 HNUM3.out).mono ?_); (case s1 => exact DR2.out _ (Kd.C_below HC5.out (show Below w5.heap.size w5 _ from by repeat (first | exact HBb.out | exact Below.refl _ _ | apply below_drew1 | apply pw_below_drewN | apply below_alloc)))); (case s2 => exact DR3.out); rintro e w7 ⟨rfl, hd⟩; obtain ⟨n7, rfl⟩ := hd.out; clear hd))
  clear h0 h1 h2 h3 hf hsz5' HSa HKp HBb HC5
  obtain ⟨hL9, hm9⟩ := head_led (HL5.out.below (pw_below_drewN (Below.refl _ _) (1 + n6 + n7))) HNX.out HCU.out
  have HL9 := Aside0.mk hL9
  have HB9 := Aside0.mk (mv_below (HB5.out.trans ((pw_below_drewN (Below.refl w5.heap.size w5) (1 + n6 + n7)).mono HB5.out.size)) hm9 (fun j hj => by rw [hj]; exact HG.out.1) (by simpa using HB5.out.size))
  rename_i hheld
  clear hL9 hm9 hheld
  generalize (((w5.drewN (1 + n6 + n7)).setCell ⟨g, 2, none⟩ (.int .u64 nx)).setCell ⟨g, 3, none⟩ (.int .u64 cu)) = w9 at HL9 HB9 ⊢
  obtain ⟨⟨h0, h1, h2, h3⟩, hf⟩ := HL9.out.cells
  go_wp2
  go_quiet (fail)
  have HB10 := Aside0.mk (HB9.out.trans ((pw_below_drewN (Below.refl w9.heap.size w9) nq).mono HB9.out.size))
  go_wp2
  refine bodyPost_ret (results_tmp2 rfl _ _ _) rfl ?_
  exact ⟨rfl, HB10.out⟩
set_option maxHeartbeats 4000000 in
set_option maxRecDepth 100000 in
theorem Load_b1 {w : World} {A0 : Option Addr} {c0 : Nat} {ps : List S52} (hC : Kd.C k52 w A0 ps.length ps) (hc : ps.length ≤ c0) (hm : ps.length ≤ 3000000) (hk : ∀ x ∈ ps, 0 ≤ x.f0 ∧ x.f0 ≤ 18446744073709551615) (hb : ∀ x ∈ ps, Bytes x.f1) (hne : ps ≠ []) {s : S52} (es : rd_T52 ps (((ps.length - 1 : Nat) : Int)) = s) (hs : s ∈ ps) (b1 : s.f0 ≠ 18446744073709551615) :
    Calls Try.prog 17 #[.slice A0 ps.length c0] w (LPost w ps.length none) := by
  have hpos : 0 < ps.length := List.length_pos_iff.2 hne
  obtain ⟨J0, hJ0⟩ : ∃ J0 : Int, J0 = ((ps.length - 1 : Nat) : Int) := ⟨_, rfl⟩
  rw [← hJ0] at es
  have q0 := eq_true (show 0 ≤ J0 by omega)
  have q1 := eq_true (show J0 < (ps.length : Int) by omega)
  obtain ⟨ad, A1, c1, ea, x0, x1, hl1, hC1⟩ := at_T52 hC J0 (by omega) (by omega)
  rw [es] at x0 x1 hl1 hC1
  have hw0 : wrap64 ((ps.length : Int) - 1) = J0 := by unfold wrap64; omega
  have d0 : ((ps.length : Int) == 0) = false := beq_eq_false_iff_ne.2 (by omega)
  obtain ⟨k0, hk0⟩ : ∃ k0, s.f0 = k0 := ⟨_, rfl⟩
  rw [hk0] at x0 b1
  have d1 : (k0 != 18446744073709551615) = true := bne_iff_ne.2 b1
  clear hk0 b1
  subst ea
  have X0 := Aside0.mk x0
  have X1 := Aside0.mk x1
  clear hC hc hm hk hb hC1 hl1 hJ0 hpos hne es hs x0 x1
  go_enter Try.func17, Try.ntmps17
  go_wp2_with (go_at_call 23; refine (New_calls _).mono ?_; rintro e w1 ⟨g, b, rfl, hL, hb⟩; have HL1 := Aside0.mk hL; have HB1 := Aside0.mk hb; have x0 := (hb.cell (World.block_lt_of_cell? w _ X0.out)).trans X0.out; have x1 := (hb.cell (World.block_lt_of_cell? w _ X1.out)).trans X1.out; clear hL hb)
  refine bodyPost_ret (results_tmp2 rfl _ _ _) rfl ?_
  exact ⟨rfl, below_alloc HB1.out _⟩
set_option maxHeartbeats 4000000 in
set_option maxRecDepth 100000 in
theorem Load_b2 {w : World} {A0 : Option Addr} {c0 : Nat} {ps : List S52} (hC : Kd.C k52 w A0 ps.length ps) (hc : ps.length ≤ c0) (hm : ps.length ≤ 3000000) (hk : ∀ x ∈ ps, 0 ≤ x.f0 ∧ x.f0 ≤ 18446744073709551615) (hb : ∀ x ∈ ps, Bytes x.f1) (hne : ps ≠ []) {s : S52} (es : rd_T52 ps (((ps.length - 1 : Nat) : Int)) = s) (hs : s ∈ ps) (s1 : s.f0 = 18446744073709551615) (b2 : s.f1.length ≠ 24) :
    Calls Try.prog 17 #[.slice A0 ps.length c0] w (LPost w ps.length none) := by
  have hpos : 0 < ps.length := List.length_pos_iff.2 hne
  obtain ⟨J0, hJ0⟩ : ∃ J0 : Int, J0 = ((ps.length - 1 : Nat) : Int) := ⟨_, rfl⟩
  rw [← hJ0] at es
  have q0 := eq_true (show 0 ≤ J0 by omega)
  have q1 := eq_true (show J0 < (ps.length : Int) by omega)
  obtain ⟨ad, A1, c1, ea, x0, x1, hl1, hC1⟩ := at_T52 hC J0 (by omega) (by omega)
  rw [es] at x0 x1 hl1 hC1
  have hw0 : wrap64 ((ps.length : Int) - 1) = J0 := by unfold wrap64; omega
  have d0 : ((ps.length : Int) == 0) = false := beq_eq_false_iff_ne.2 (by omega)
  rw [s1] at x0
  have d1 : ((s.f1.length : Int) != 24) = true := bne_iff_ne.2 (by omega)
  clear s1 b2
  subst ea
  have X0 := Aside0.mk x0
  have X1 := Aside0.mk x1
  clear hC hc hm hk hb hC1 hl1 hJ0 hpos hne es hs x0 x1
  go_enter Try.func17, Try.ntmps17
  go_wp2_with (go_at_call 23; refine (New_calls _).mono ?_; rintro e w1 ⟨g, b, rfl, hL, hb⟩; have HL1 := Aside0.mk hL; have HB1 := Aside0.mk hb; have x0 := (hb.cell (World.block_lt_of_cell? w _ X0.out)).trans X0.out; have x1 := (hb.cell (World.block_lt_of_cell? w _ X1.out)).trans X1.out; clear hL hb)
  refine bodyPost_ret (results_tmp2 rfl _ _ _) rfl ?_
  exact ⟨rfl, below_alloc HB1.out _⟩
set_option maxHeartbeats 4000000 in
set_option maxRecDepth 100000 in
theorem Load_nil (w : World) (A0 : Option Addr) (c0 : Nat) : Calls Try.prog 17 #[.slice A0 0 c0] w (LPost w 0 (some LG.empty)) := by
  go_enter Try.func17, Try.ntmps17
  go_wp2_with (go_at_call 23; refine (New_calls _).mono ?_; rintro e w1 ⟨g, b, rfl, hL, hb⟩; have HL1 := Aside0.mk hL; have HB1 := Aside0.mk hb; clear hL hb)
  refine bodyPost_ret (results_tmp2 rfl _ _ _) rfl ?_
  exact ⟨g, b, _, rfl, HL1.out, HB1.out⟩
theorem Load_calls {w : World} {A0 : Option Addr} {c0 : Nat} {ps : List S52} (hC : Kd.C k52 w A0 ps.length ps) (hc : ps.length ≤ c0) (hm : ps.length ≤ 3000000) (hk : ∀ x ∈ ps, 0 ≤ x.f0 ∧ x.f0 ≤ 18446744073709551615) (hb : ∀ x ∈ ps, Bytes x.f1) :
    Calls Try.prog 17 #[.slice A0 ps.length c0] w (LPost w ps.length (loadS ps)) := by
  by_cases hne : ps = []
  · subst hne
    exact Load_nil w A0 c0
  · have hl : 0 < ps.length := List.length_pos_iff.2 hne
    have es : rd_T52 ps (((ps.length - 1 : Nat) : Int)) = ps.getLast hne := by
      rw [rd_get (show ps.length - 1 < ps.length by omega), List.getLast_eq_getElem]
    have hs := List.getLast_mem hne
    have hlast := List.getLast?_eq_some_getLast hne
    generalize ps.getLast hne = s at es hs hlast
    unfold loadS
    rw [hlast]
    simp only
    by_cases s1 : s.f0 = 18446744073709551615
    · by_cases s2 : s.f1.length = 24
      · rw [if_pos ⟨s1, s2⟩]
        by_cases hno : numsOk s
        · rw [if_pos hno]
          exact Load_nums hC hc hm hk hb hne es hs s1 s2 hno rfl
        · rw [if_neg hno]
          by_cases n1 : nextOf s = 0
          · exact Load_n1 hC hc hm hk hb hne es hs s1 s2 n1
          · by_cases n2 : nextOf s < 9223372036854775808
            · by_cases n3 : newestOf s ≤ 100
              · exact Load_n4 hC hc hm hk hb hne es hs s1 s2 n1 n2 n3 (fun n4 => hno ⟨n1, n2, n3, n4⟩)
              · exact Load_n3 hC hc hm hk hb hne es hs s1 s2 n1 n2 n3
            · exact Load_n2 hC hc hm hk hb hne es hs s1 s2 n1 n2
      · rw [if_neg (fun h => s2 h.2)]
        exact Load_b2 hC hc hm hk hb hne es hs s1 s2
    · rw [if_neg (fun h => s1 h.1)]
      exact Load_b1 hC hc hm hk hb hne es hs s1
theorem refNum_l0 (xs : List Int) (hb : Bytes xs) (h8 : xs.length ≤ 8) : ∀ (d i k a : Nat), i + d = xs.length → d < k → a = valN (xs.take i) →
    marginaliaref16_Number.l0 k xs (a : Int) (i : Int) = some ((valN xs : Nat) : Int) := by
  intro d
  induction d with
  | zero =>
    intro i k a hi hk ha
    obtain ⟨k, rfl⟩ : ∃ m, k = m + 1 := ⟨k - 1, by omega⟩
    simp only [marginaliaref16_Number.l0]
    rw [if_neg (by omega), ha, List.take_of_length_le (by omega)]
  | succ d ih =>
    intro i k a hi hk ha
    obtain ⟨k, rfl⟩ : ∃ m, k = m + 1 := ⟨k - 1, by omega⟩
    have hlt : i < xs.length := by omega
    have hx := hb xs[i] (List.getElem_mem hlt)
    have hal : a < 256 ^ i := by
      have := valN_lt (xs.take i) (fun y hy => hb y (List.mem_of_mem_take hy))
      rw [List.length_take, Nat.min_eq_left (by omega)] at this
      omega
    have ha7 : a < 72057594037927936 := Nat.lt_of_lt_of_le hal (by have := Nat.pow_le_pow_right (n := 256) (by omega) (show i ≤ 7 by omega); simpa using this)
    simp only [marginaliaref16_Number.l0]
    rw [if_pos (by omega), if_pos (by omega), rd_at xs i hlt]
    obtain ⟨c, hc⟩ : ∃ c : Nat, xs[i] = (c : Int) := ⟨xs[i].toNat, by omega⟩
    rw [hc, u64_small (n := (a : Int) * 256) (by omega) (by omega), u64_small (n := (c : Int)) (by omega) (by omega), u64_small (by omega) (by omega), wrap_small (by omega) (by omega), show (i : Int) + 1 = ((i + 1 : Nat) : Int) by omega, show (a : Int) * 256 + (c : Int) = ((a * 256 + c : Nat) : Int) by omega]
    refine ih (i + 1) k _ (by omega) (by omega) ?_
    rw [List.take_add_one, List.getElem?_eq_getElem hlt, hc, Option.toList_some]
    unfold valN
    rw [List.foldl_append, List.foldl_cons, List.foldl_nil, Int.toNat_natCast]
    rw [ha]
    rfl
theorem refNum_is (xs : List Int) (hb : Bytes xs) (h8 : xs.length ≤ 8) (k : Nat) (hk : xs.length < k) : marginaliaref16_Number.f k xs = some ((valN xs : Nat) : Int) := by
  unfold marginaliaref16_Number.f
  exact refNum_l0 xs hb h8 xs.length 0 k 0 (by omega) hk rfl
set_option maxHeartbeats 4000000 in
set_option maxRecDepth 100000 in
theorem head_h1 {w : World} {k : Int} {A1 : Option Addr} {c1 : Nat} {bs : List Int} (hC1 : (Kd.int .u8).C w A1 bs.length bs) (hl1 : bs.length ≤ c1) (hby : Bytes bs) (b1 : k ≠ 18446744073709551615) :
    Calls Try.prog 33 #[.agg #[.int .u64 k, .slice A1 bs.length c1]] w fun e w' => e = .returned (.tuple #[.int .u64 0, .int .u64 0, .int .u64 0, .bool false]) ∧ Below w.heap.size w w' := by
  have d1 : (k != 18446744073709551615) = true := bne_iff_ne.2 b1
  clear b1
  clear hC1 hl1 hby
  go_enter Try.func33, Try.ntmps33
  go_wp2_with ((with_reducible refine gate_dst (N := 1) rfl ?_); refine box_event ?hg (N := 1) ?hd (cs := #[.int .u64 k, .slice A1 bs.length c1]) (t := 52) ?hr ?_; (case hd => rfl); (case hg => rfl); (case hr => first | (go_simp; done) | (go_simp; rfl)); intro gb hg w5 hbox hb; have HB5 := Aside0.mk hb; have BK5 := Aside0.mk hbox; have c0 : w5.cell? ⟨gb, 0, none⟩ = some (.int .u64 k) := (blk_cell hbox 0).trans rfl; have c1' : w5.cell? ⟨gb, 1, none⟩ = some (.slice A1 bs.length c1) := (blk_cell hbox 1).trans rfl; clear hg hbox hb)
  refine bodyPost_ret (results_list (rs := [.tmp 2, .tmp 3, .tmp 4, .tmp 5]) rfl (by simp) (.tmp (.tmp (.tmp (.tmp .nil))))) rfl ?_
  exact ⟨rfl, HB5.out⟩
set_option maxHeartbeats 4000000 in
set_option maxRecDepth 100000 in
theorem head_h2 {w : World} {A1 : Option Addr} {c1 : Nat} {bs : List Int} (hC1 : (Kd.int .u8).C w A1 bs.length bs) (hl1 : bs.length ≤ c1) (hby : Bytes bs) (b2 : bs.length ≠ 24) :
    Calls Try.prog 33 #[.agg #[.int .u64 18446744073709551615, .slice A1 bs.length c1]] w fun e w' => e = .returned (.tuple #[.int .u64 0, .int .u64 0, .int .u64 0, .bool false]) ∧ Below w.heap.size w w' := by
  have d1 : ((bs.length : Int) != 24) = true := bne_iff_ne.2 (by omega)
  clear b2
  clear hC1 hl1 hby
  go_enter Try.func33, Try.ntmps33
  go_wp2_with ((with_reducible refine gate_dst (N := 1) rfl ?_); refine box_event ?hg (N := 1) ?hd (cs := #[.int .u64 18446744073709551615, .slice A1 bs.length c1]) (t := 52) ?hr ?_; (case hd => rfl); (case hg => rfl); (case hr => first | (go_simp; done) | (go_simp; rfl)); intro gb hg w5 hbox hb; have HB5 := Aside0.mk hb; have BK5 := Aside0.mk hbox; have c0 : w5.cell? ⟨gb, 0, none⟩ = some (.int .u64 18446744073709551615) := (blk_cell hbox 0).trans rfl; have c1' : w5.cell? ⟨gb, 1, none⟩ = some (.slice A1 bs.length c1) := (blk_cell hbox 1).trans rfl; clear hg hbox hb)
  refine bodyPost_ret (results_list (rs := [.tmp 2, .tmp 3, .tmp 4, .tmp 5]) rfl (by simp) (.tmp (.tmp (.tmp (.tmp .nil))))) rfl ?_
  exact ⟨rfl, HB5.out⟩
set_option maxHeartbeats 4000000 in
set_option maxRecDepth 100000 in
theorem head_h3 {w : World} {A1 : Option Addr} {c1 : Nat} {bs : List Int} (hC1 : (Kd.int .u8).C w A1 bs.length bs) (hl1 : bs.length ≤ c1) (hby : Bytes bs) (s2 : bs.length = 24) {nx nw cu : Int} (hnx : ((valN (bs.take 8) : Nat) : Int) = nx) (hnw : ((valN ((bs.take 16).drop 8) : Nat) : Int) = nw) (hcu : ((valN (bs.drop 16) : Nat) : Int) = cu) (b1 : ¬ 1 ≤ nx) :
    Calls Try.prog 33 #[.agg #[.int .u64 18446744073709551615, .slice A1 bs.length c1]] w fun e w' => e = .returned (.tuple #[.int .u64 nx, .int .u64 nw, .int .u64 cu, .bool false]) ∧ Below w.heap.size w w' := by
  have m1 : (bs.take 8).length = 8 := by rw [List.length_take]; omega
  have m2 : ((bs.take 16).drop 8).length = 8 := by rw [List.length_drop, List.length_take]; omega
  have m3 : (bs.drop 16).length = 8 := by rw [List.length_drop]; omega
  have by1 := bytes_take hby 8
  have by2 := bytes_drop (bytes_take hby 16) 8
  have by3 := bytes_drop hby 16
  have hnum1 : marginaliaref16_Number.f 9 (bs.take 8) = some nx := by rw [← hnx]; exact refNum_is _ by1 (by omega) 9 (by omega)
  have hnum2 : marginaliaref16_Number.f 9 ((bs.take 16).drop 8) = some nw := by rw [← hnw]; exact refNum_is _ by2 (by omega) 9 (by omega)
  have hnum3 : marginaliaref16_Number.f 9 (bs.drop 16) = some cu := by rw [← hcu]; exact refNum_is _ by3 (by omega) 9 (by omega)
  obtain ⟨i0, hi5, _, hsz5, _⟩ := info_parts info5
  obtain ⟨tk1, tk2, tk3⟩ := print_take_of (P := Try.prog) (Value.int .u8) (0 : Int) 50 5 .i64 Try.underlying50 hi5 hsz5 A1 c1 bs 8 (by omega) (by omega) hl1
  have tk1' : ∀ W : World, (Instr.slice 50 (.slice A1 bs.length c1) none (some (.int .i64 8)) none).run Try.prog W = .ok (.slice A1 (bs.take 8).length c1) W := tk1
  have TK2 := Aside0.mk (show ∀ W, (Kd.int .u8).C W A1 bs.length bs → (Kd.int .u8).C W A1 (bs.take 8).length (bs.take 8) from fun W hC => Kd.C_of_reads (h1 := fun _ => rfl) (tk2 W (Kd.reads_of_C hC)))
  have TK3 := Aside0.mk (show (bs.take 8).length ≤ c1 from tk3)
  obtain ⟨A2, dr1, dr2, dr3⟩ := print_drop_of (P := Try.prog) (Value.int .u8) (0 : Int) 50 5 .i64 Try.underlying50 hi5 hsz5 A1 c1 bs 16 (by omega) (by omega) hl1
  obtain ⟨c2, hc2⟩ : ∃ c2, c1 - (16 : Int).toNat = c2 := ⟨_, rfl⟩
  rw [hc2] at dr1 dr3
  have dr1' : ∀ W : World, (Instr.slice 50 (.slice A1 bs.length c1) (some (.int .i64 16)) none none).run Try.prog W = .ok (.slice A2 (bs.drop 16).length c2) W := dr1
  have DR2 := Aside0.mk (show ∀ W, (Kd.int .u8).C W A1 bs.length bs → (Kd.int .u8).C W A2 (bs.drop 16).length (bs.drop 16) from fun W hC => Kd.C_of_reads (h1 := fun _ => rfl) (dr2 W (Kd.reads_of_C hC)))
  have DR3 := Aside0.mk (show (bs.drop 16).length ≤ c2 from dr3)
  obtain ⟨A3, md1, md2, md3⟩ := print_mid_of (P := Try.prog) (Value.int .u8) (0 : Int) 50 5 .i64 .i64 Try.underlying50 hi5 hsz5 A1 c1 bs 8 16 (by omega) (by omega) (by omega) hl1
  obtain ⟨c3, hc3⟩ : ∃ c3, c1 - (8 : Int).toNat = c3 := ⟨_, rfl⟩
  rw [hc3] at md1 md3
  have md1' : ∀ W : World, (Instr.slice 50 (.slice A1 bs.length c1) (some (.int .i64 8)) (some (.int .i64 16)) none).run Try.prog W = .ok (.slice A3 ((bs.take 16).drop 8).length c3) W := md1
  have MD2 := Aside0.mk (show ∀ W, (Kd.int .u8).C W A1 bs.length bs → (Kd.int .u8).C W A3 ((bs.take 16).drop 8).length ((bs.take 16).drop 8) from fun W hC => Kd.C_of_reads (h1 := fun _ => rfl) (md2 W (Kd.reads_of_C hC)))
  have MD3 := Aside0.mk (show ((bs.take 16).drop 8).length ≤ c3 from md3)
  have HNUM1 := Aside0.mk hnum1
  have HNUM2 := Aside0.mk hnum2
  have HNUM3 := Aside0.mk hnum3
  obtain ⟨tk, htk⟩ : ∃ tk, bs.take 8 = tk := ⟨_, rfl⟩
  obtain ⟨dr, hdr⟩ : ∃ dr, bs.drop 16 = dr := ⟨_, rfl⟩
  obtain ⟨md, hmd⟩ : ∃ md, (bs.take 16).drop 8 = md := ⟨_, rfl⟩
  rw [htk] at tk1' TK2 TK3 HNUM1
  rw [hdr] at dr1' DR2 DR3 HNUM3
  rw [hmd] at md1' MD2 MD3 HNUM2
  have d1 : ((bs.length : Int) != 24) = false := bne_eq_false_iff_eq.2 (by omega)
  have e1 : decide (1 ≤ nx) = false := decide_eq_false b1
  have HC1 := Aside0.mk hC1
  clear hC1 hby s2 hnx hnw hcu m1 m2 m3 by1 by2 by3 hnum1 hnum2 hnum3 tk1 tk2 tk3 dr1 dr2 dr3 md1 md2 md3 hc2 hc3 htk hdr hmd hi5 hsz5 hl1 b1
  go_enter Try.func33, Try.ntmps33
  go_wp2_with ((with_reducible refine gate_dst (N := 1) rfl ?_); refine box_event ?hg (N := 1) ?hd (cs := #[.int .u64 18446744073709551615, .slice A1 bs.length c1]) (t := 52) ?hr ?_; (case hd => rfl); (case hg => rfl); (case hr => first | (go_simp; done) | (go_simp; rfl)); intro gb hg w5 hbox hb; have HB5 := Aside0.mk hb; have BK5 := Aside0.mk hbox; have c0 : w5.cell? ⟨gb, 0, none⟩ = some (.int .u64 18446744073709551615) := (blk_cell hbox 0).trans rfl; have c1' : w5.cell? ⟨gb, 1, none⟩ = some (.slice A1 bs.length c1) := (blk_cell hbox 1).trans rfl; clear hg hbox hb)
  have HC5 := Aside0.mk (Kd.C_below HC1.out HB5.out)
  have HBb := Aside0.mk (Below.refl w5.heap.size w5)
  have HSa := Aside0.mk (show ∀ W, Below w5.heap.size w5 W → W.cell? ⟨gb, 1, none⟩ = some (.slice A1 bs.length c1) from fun W hW => (blk_cell (blk_below BK5.out hW) 1).trans rfl)
  go_region_held3 (fun W => W.cell? ⟨gb, 1, none⟩ = some (.slice A1 bs.length c1)) ((refine HSa.out _ ?_; repeat (first | exact HBb.out | exact Below.refl _ _ | apply below_drew1 | apply pw_below_drewN | apply below_alloc))) (first
    | (go_at_call 35; (with_reducible refine (marginaliaref16_Number.calls 9 A1 c1 tk nx _ ?s1 ?s2 HNUM1.out).mono ?_); (case s1 => exact TK2.out _ (Kd.C_below HC5.out (show Below w5.heap.size w5 _ from by repeat (first | exact HBb.out | exact Below.refl _ _ | apply below_drew1 | apply pw_below_drewN | apply below_alloc)))); (case s2 => exact TK3.out); rintro e w6 ⟨rfl, hd⟩; obtain ⟨n6, rfl⟩ := hd.out; clear hd)
    | (go_at_call 35; (with_reducible refine (marginaliaref16_Number.calls 9 A3 c3 md nw _ ?s1 ?s2 HNUM2.out).mono ?_); (case s1 => exact MD2.out _ (Kd.C_below HC5.out (show Below w5.heap.size w5 _ from by repeat (first | exact HBb.out | exact Below.refl _ _ | apply below_drew1 | apply pw_below_drewN | apply below_alloc)))); (case s2 => exact MD3.out); rintro e w7 ⟨rfl, hd⟩; obtain ⟨n7, rfl⟩ := hd.out; clear hd)
    | (go_at_call 35; (with_reducible refine (marginaliaref16_Number.calls 9 A2 c2 dr cu _ ?s1 ?s2 HNUM3.out).mono ?_); (case s1 => exact DR2.out _ (Kd.C_below HC5.out (show Below w5.heap.size w5 _ from by repeat (first | exact HBb.out | exact Below.refl _ _ | apply below_drew1 | apply pw_below_drewN | apply below_alloc)))); (case s2 => exact DR3.out); rintro e w8 ⟨rfl, hd⟩; obtain ⟨n8, rfl⟩ := hd.out; clear hd))
  go_wp2
  refine bodyPost_ret (results_list (rs := [.tmp 2, .tmp 3, .tmp 4, .tmp 5]) rfl (by simp) (.tmp (.tmp (.tmp (.tmp .nil))))) rfl ?_
  exact ⟨rfl, HB5.out.trans ((by repeat (first | exact HBb.out | exact Below.refl _ _ | apply below_drew1 | apply pw_below_drewN | apply below_alloc) : Below w5.heap.size w5 _).mono HB5.out.size)⟩
set_option maxHeartbeats 4000000 in
set_option maxRecDepth 100000 in
theorem head_h4 {w : World} {A1 : Option Addr} {c1 : Nat} {bs : List Int} (hC1 : (Kd.int .u8).C w A1 bs.length bs) (hl1 : bs.length ≤ c1) (hby : Bytes bs) (s2 : bs.length = 24) {nx nw cu : Int} (hnx : ((valN (bs.take 8) : Nat) : Int) = nx) (hnw : ((valN ((bs.take 16).drop 8) : Nat) : Int) = nw) (hcu : ((valN (bs.drop 16) : Nat) : Int) = cu) (b1 : 1 ≤ nx) (b2 : ¬ nx < 9223372036854775808) :
    Calls Try.prog 33 #[.agg #[.int .u64 18446744073709551615, .slice A1 bs.length c1]] w fun e w' => e = .returned (.tuple #[.int .u64 nx, .int .u64 nw, .int .u64 cu, .bool false]) ∧ Below w.heap.size w w' := by
  have m1 : (bs.take 8).length = 8 := by rw [List.length_take]; omega
  have m2 : ((bs.take 16).drop 8).length = 8 := by rw [List.length_drop, List.length_take]; omega
  have m3 : (bs.drop 16).length = 8 := by rw [List.length_drop]; omega
  have by1 := bytes_take hby 8
  have by2 := bytes_drop (bytes_take hby 16) 8
  have by3 := bytes_drop hby 16
  have hnum1 : marginaliaref16_Number.f 9 (bs.take 8) = some nx := by rw [← hnx]; exact refNum_is _ by1 (by omega) 9 (by omega)
  have hnum2 : marginaliaref16_Number.f 9 ((bs.take 16).drop 8) = some nw := by rw [← hnw]; exact refNum_is _ by2 (by omega) 9 (by omega)
  have hnum3 : marginaliaref16_Number.f 9 (bs.drop 16) = some cu := by rw [← hcu]; exact refNum_is _ by3 (by omega) 9 (by omega)
  obtain ⟨i0, hi5, _, hsz5, _⟩ := info_parts info5
  obtain ⟨tk1, tk2, tk3⟩ := print_take_of (P := Try.prog) (Value.int .u8) (0 : Int) 50 5 .i64 Try.underlying50 hi5 hsz5 A1 c1 bs 8 (by omega) (by omega) hl1
  have tk1' : ∀ W : World, (Instr.slice 50 (.slice A1 bs.length c1) none (some (.int .i64 8)) none).run Try.prog W = .ok (.slice A1 (bs.take 8).length c1) W := tk1
  have TK2 := Aside0.mk (show ∀ W, (Kd.int .u8).C W A1 bs.length bs → (Kd.int .u8).C W A1 (bs.take 8).length (bs.take 8) from fun W hC => Kd.C_of_reads (h1 := fun _ => rfl) (tk2 W (Kd.reads_of_C hC)))
  have TK3 := Aside0.mk (show (bs.take 8).length ≤ c1 from tk3)
  obtain ⟨A2, dr1, dr2, dr3⟩ := print_drop_of (P := Try.prog) (Value.int .u8) (0 : Int) 50 5 .i64 Try.underlying50 hi5 hsz5 A1 c1 bs 16 (by omega) (by omega) hl1
  obtain ⟨c2, hc2⟩ : ∃ c2, c1 - (16 : Int).toNat = c2 := ⟨_, rfl⟩
  rw [hc2] at dr1 dr3
  have dr1' : ∀ W : World, (Instr.slice 50 (.slice A1 bs.length c1) (some (.int .i64 16)) none none).run Try.prog W = .ok (.slice A2 (bs.drop 16).length c2) W := dr1
  have DR2 := Aside0.mk (show ∀ W, (Kd.int .u8).C W A1 bs.length bs → (Kd.int .u8).C W A2 (bs.drop 16).length (bs.drop 16) from fun W hC => Kd.C_of_reads (h1 := fun _ => rfl) (dr2 W (Kd.reads_of_C hC)))
  have DR3 := Aside0.mk (show (bs.drop 16).length ≤ c2 from dr3)
  obtain ⟨A3, md1, md2, md3⟩ := print_mid_of (P := Try.prog) (Value.int .u8) (0 : Int) 50 5 .i64 .i64 Try.underlying50 hi5 hsz5 A1 c1 bs 8 16 (by omega) (by omega) (by omega) hl1
  obtain ⟨c3, hc3⟩ : ∃ c3, c1 - (8 : Int).toNat = c3 := ⟨_, rfl⟩
  rw [hc3] at md1 md3
  have md1' : ∀ W : World, (Instr.slice 50 (.slice A1 bs.length c1) (some (.int .i64 8)) (some (.int .i64 16)) none).run Try.prog W = .ok (.slice A3 ((bs.take 16).drop 8).length c3) W := md1
  have MD2 := Aside0.mk (show ∀ W, (Kd.int .u8).C W A1 bs.length bs → (Kd.int .u8).C W A3 ((bs.take 16).drop 8).length ((bs.take 16).drop 8) from fun W hC => Kd.C_of_reads (h1 := fun _ => rfl) (md2 W (Kd.reads_of_C hC)))
  have MD3 := Aside0.mk (show ((bs.take 16).drop 8).length ≤ c3 from md3)
  have HNUM1 := Aside0.mk hnum1
  have HNUM2 := Aside0.mk hnum2
  have HNUM3 := Aside0.mk hnum3
  obtain ⟨tk, htk⟩ : ∃ tk, bs.take 8 = tk := ⟨_, rfl⟩
  obtain ⟨dr, hdr⟩ : ∃ dr, bs.drop 16 = dr := ⟨_, rfl⟩
  obtain ⟨md, hmd⟩ : ∃ md, (bs.take 16).drop 8 = md := ⟨_, rfl⟩
  rw [htk] at tk1' TK2 TK3 HNUM1
  rw [hdr] at dr1' DR2 DR3 HNUM3
  rw [hmd] at md1' MD2 MD3 HNUM2
  have d1 : ((bs.length : Int) != 24) = false := bne_eq_false_iff_eq.2 (by omega)
  have e1 : decide (1 ≤ nx) = true := decide_eq_true b1
  have e2 : decide (nx < 9223372036854775808) = false := decide_eq_false b2
  have HC1 := Aside0.mk hC1
  clear hC1 hby s2 hnx hnw hcu m1 m2 m3 by1 by2 by3 hnum1 hnum2 hnum3 tk1 tk2 tk3 dr1 dr2 dr3 md1 md2 md3 hc2 hc3 htk hdr hmd hi5 hsz5 hl1 b1 b2
  go_enter Try.func33, Try.ntmps33
  go_wp2_with ((with_reducible refine gate_dst (N := 1) rfl ?_); refine box_event ?hg (N := 1) ?hd (cs := #[.int .u64 18446744073709551615, .slice A1 bs.length c1]) (t := 52) ?hr ?_; (case hd => rfl); (case hg => rfl); (case hr => first | (go_simp; done) | (go_simp; rfl)); intro gb hg w5 hbox hb; have HB5 := Aside0.mk hb; have BK5 := Aside0.mk hbox; have c0 : w5.cell? ⟨gb, 0, none⟩ = some (.int .u64 18446744073709551615) := (blk_cell hbox 0).trans rfl; have c1' : w5.cell? ⟨gb, 1, none⟩ = some (.slice A1 bs.length c1) := (blk_cell hbox 1).trans rfl; clear hg hbox hb)
  have HC5 := Aside0.mk (Kd.C_below HC1.out HB5.out)
  have HBb := Aside0.mk (Below.refl w5.heap.size w5)
  have HSa := Aside0.mk (show ∀ W, Below w5.heap.size w5 W → W.cell? ⟨gb, 1, none⟩ = some (.slice A1 bs.length c1) from fun W hW => (blk_cell (blk_below BK5.out hW) 1).trans rfl)
  go_region_held3 (fun W => W.cell? ⟨gb, 1, none⟩ = some (.slice A1 bs.length c1)) ((refine HSa.out _ ?_; repeat (first | exact HBb.out | exact Below.refl _ _ | apply below_drew1 | apply pw_below_drewN | apply below_alloc))) (first
    | (go_at_call 35; (with_reducible refine (marginaliaref16_Number.calls 9 A1 c1 tk nx _ ?s1 ?s2 HNUM1.out).mono ?_); (case s1 => exact TK2.out _ (Kd.C_below HC5.out (show Below w5.heap.size w5 _ from by repeat (first | exact HBb.out | exact Below.refl _ _ | apply below_drew1 | apply pw_below_drewN | apply below_alloc)))); (case s2 => exact TK3.out); rintro e w6 ⟨rfl, hd⟩; obtain ⟨n6, rfl⟩ := hd.out; clear hd)
    | (go_at_call 35; (with_reducible refine (marginaliaref16_Number.calls 9 A3 c3 md nw _ ?s1 ?s2 HNUM2.out).mono ?_); (case s1 => exact MD2.out _ (Kd.C_below HC5.out (show Below w5.heap.size w5 _ from by repeat (first | exact HBb.out | exact Below.refl _ _ | apply below_drew1 | apply pw_below_drewN | apply below_alloc)))); (case s2 => exact MD3.out); rintro e w7 ⟨rfl, hd⟩; obtain ⟨n7, rfl⟩ := hd.out; clear hd)
    | (go_at_call 35; (with_reducible refine (marginaliaref16_Number.calls 9 A2 c2 dr cu _ ?s1 ?s2 HNUM3.out).mono ?_); (case s1 => exact DR2.out _ (Kd.C_below HC5.out (show Below w5.heap.size w5 _ from by repeat (first | exact HBb.out | exact Below.refl _ _ | apply below_drew1 | apply pw_below_drewN | apply below_alloc)))); (case s2 => exact DR3.out); rintro e w8 ⟨rfl, hd⟩; obtain ⟨n8, rfl⟩ := hd.out; clear hd))
  go_wp2
  refine bodyPost_ret (results_list (rs := [.tmp 2, .tmp 3, .tmp 4, .tmp 5]) rfl (by simp) (.tmp (.tmp (.tmp (.tmp .nil))))) rfl ?_
  exact ⟨rfl, HB5.out.trans ((by repeat (first | exact HBb.out | exact Below.refl _ _ | apply below_drew1 | apply pw_below_drewN | apply below_alloc) : Below w5.heap.size w5 _).mono HB5.out.size)⟩
set_option maxHeartbeats 4000000 in
set_option maxRecDepth 100000 in
theorem head_h5 {w : World} {A1 : Option Addr} {c1 : Nat} {bs : List Int} (hC1 : (Kd.int .u8).C w A1 bs.length bs) (hl1 : bs.length ≤ c1) (hby : Bytes bs) (s2 : bs.length = 24) {nx nw cu : Int} (hnx : ((valN (bs.take 8) : Nat) : Int) = nx) (hnw : ((valN ((bs.take 16).drop 8) : Nat) : Int) = nw) (hcu : ((valN (bs.drop 16) : Nat) : Int) = cu) (b1 : 1 ≤ nx) (b2 : nx < 9223372036854775808) (b3 : ¬ nw ≤ 100) :
    Calls Try.prog 33 #[.agg #[.int .u64 18446744073709551615, .slice A1 bs.length c1]] w fun e w' => e = .returned (.tuple #[.int .u64 nx, .int .u64 nw, .int .u64 cu, .bool false]) ∧ Below w.heap.size w w' := by
  have m1 : (bs.take 8).length = 8 := by rw [List.length_take]; omega
  have m2 : ((bs.take 16).drop 8).length = 8 := by rw [List.length_drop, List.length_take]; omega
  have m3 : (bs.drop 16).length = 8 := by rw [List.length_drop]; omega
  have by1 := bytes_take hby 8
  have by2 := bytes_drop (bytes_take hby 16) 8
  have by3 := bytes_drop hby 16
  have hnum1 : marginaliaref16_Number.f 9 (bs.take 8) = some nx := by rw [← hnx]; exact refNum_is _ by1 (by omega) 9 (by omega)
  have hnum2 : marginaliaref16_Number.f 9 ((bs.take 16).drop 8) = some nw := by rw [← hnw]; exact refNum_is _ by2 (by omega) 9 (by omega)
  have hnum3 : marginaliaref16_Number.f 9 (bs.drop 16) = some cu := by rw [← hcu]; exact refNum_is _ by3 (by omega) 9 (by omega)
  obtain ⟨i0, hi5, _, hsz5, _⟩ := info_parts info5
  obtain ⟨tk1, tk2, tk3⟩ := print_take_of (P := Try.prog) (Value.int .u8) (0 : Int) 50 5 .i64 Try.underlying50 hi5 hsz5 A1 c1 bs 8 (by omega) (by omega) hl1
  have tk1' : ∀ W : World, (Instr.slice 50 (.slice A1 bs.length c1) none (some (.int .i64 8)) none).run Try.prog W = .ok (.slice A1 (bs.take 8).length c1) W := tk1
  have TK2 := Aside0.mk (show ∀ W, (Kd.int .u8).C W A1 bs.length bs → (Kd.int .u8).C W A1 (bs.take 8).length (bs.take 8) from fun W hC => Kd.C_of_reads (h1 := fun _ => rfl) (tk2 W (Kd.reads_of_C hC)))
  have TK3 := Aside0.mk (show (bs.take 8).length ≤ c1 from tk3)
  obtain ⟨A2, dr1, dr2, dr3⟩ := print_drop_of (P := Try.prog) (Value.int .u8) (0 : Int) 50 5 .i64 Try.underlying50 hi5 hsz5 A1 c1 bs 16 (by omega) (by omega) hl1
  obtain ⟨c2, hc2⟩ : ∃ c2, c1 - (16 : Int).toNat = c2 := ⟨_, rfl⟩
  rw [hc2] at dr1 dr3
  have dr1' : ∀ W : World, (Instr.slice 50 (.slice A1 bs.length c1) (some (.int .i64 16)) none none).run Try.prog W = .ok (.slice A2 (bs.drop 16).length c2) W := dr1
  have DR2 := Aside0.mk (show ∀ W, (Kd.int .u8).C W A1 bs.length bs → (Kd.int .u8).C W A2 (bs.drop 16).length (bs.drop 16) from fun W hC => Kd.C_of_reads (h1 := fun _ => rfl) (dr2 W (Kd.reads_of_C hC)))
  have DR3 := Aside0.mk (show (bs.drop 16).length ≤ c2 from dr3)
  obtain ⟨A3, md1, md2, md3⟩ := print_mid_of (P := Try.prog) (Value.int .u8) (0 : Int) 50 5 .i64 .i64 Try.underlying50 hi5 hsz5 A1 c1 bs 8 16 (by omega) (by omega) (by omega) hl1
  obtain ⟨c3, hc3⟩ : ∃ c3, c1 - (8 : Int).toNat = c3 := ⟨_, rfl⟩
  rw [hc3] at md1 md3
  have md1' : ∀ W : World, (Instr.slice 50 (.slice A1 bs.length c1) (some (.int .i64 8)) (some (.int .i64 16)) none).run Try.prog W = .ok (.slice A3 ((bs.take 16).drop 8).length c3) W := md1
  have MD2 := Aside0.mk (show ∀ W, (Kd.int .u8).C W A1 bs.length bs → (Kd.int .u8).C W A3 ((bs.take 16).drop 8).length ((bs.take 16).drop 8) from fun W hC => Kd.C_of_reads (h1 := fun _ => rfl) (md2 W (Kd.reads_of_C hC)))
  have MD3 := Aside0.mk (show ((bs.take 16).drop 8).length ≤ c3 from md3)
  have HNUM1 := Aside0.mk hnum1
  have HNUM2 := Aside0.mk hnum2
  have HNUM3 := Aside0.mk hnum3
  obtain ⟨tk, htk⟩ : ∃ tk, bs.take 8 = tk := ⟨_, rfl⟩
  obtain ⟨dr, hdr⟩ : ∃ dr, bs.drop 16 = dr := ⟨_, rfl⟩
  obtain ⟨md, hmd⟩ : ∃ md, (bs.take 16).drop 8 = md := ⟨_, rfl⟩
  rw [htk] at tk1' TK2 TK3 HNUM1
  rw [hdr] at dr1' DR2 DR3 HNUM3
  rw [hmd] at md1' MD2 MD3 HNUM2
  have d1 : ((bs.length : Int) != 24) = false := bne_eq_false_iff_eq.2 (by omega)
  have e1 : decide (1 ≤ nx) = true := decide_eq_true b1
  have e2 : decide (nx < 9223372036854775808) = true := decide_eq_true b2
  have e3 : decide (nw ≤ 100) = false := decide_eq_false b3
  have HC1 := Aside0.mk hC1
  clear hC1 hby s2 hnx hnw hcu m1 m2 m3 by1 by2 by3 hnum1 hnum2 hnum3 tk1 tk2 tk3 dr1 dr2 dr3 md1 md2 md3 hc2 hc3 htk hdr hmd hi5 hsz5 hl1 b1 b2 b3
  go_enter Try.func33, Try.ntmps33
  go_wp2_with ((with_reducible refine gate_dst (N := 1) rfl ?_); refine box_event ?hg (N := 1) ?hd (cs := #[.int .u64 18446744073709551615, .slice A1 bs.length c1]) (t := 52) ?hr ?_; (case hd => rfl); (case hg => rfl); (case hr => first | (go_simp; done) | (go_simp; rfl)); intro gb hg w5 hbox hb; have HB5 := Aside0.mk hb; have BK5 := Aside0.mk hbox; have c0 : w5.cell? ⟨gb, 0, none⟩ = some (.int .u64 18446744073709551615) := (blk_cell hbox 0).trans rfl; have c1' : w5.cell? ⟨gb, 1, none⟩ = some (.slice A1 bs.length c1) := (blk_cell hbox 1).trans rfl; clear hg hbox hb)
  have HC5 := Aside0.mk (Kd.C_below HC1.out HB5.out)
  have HBb := Aside0.mk (Below.refl w5.heap.size w5)
  have HSa := Aside0.mk (show ∀ W, Below w5.heap.size w5 W → W.cell? ⟨gb, 1, none⟩ = some (.slice A1 bs.length c1) from fun W hW => (blk_cell (blk_below BK5.out hW) 1).trans rfl)
  go_region_held3 (fun W => W.cell? ⟨gb, 1, none⟩ = some (.slice A1 bs.length c1)) ((refine HSa.out _ ?_; repeat (first | exact HBb.out | exact Below.refl _ _ | apply below_drew1 | apply pw_below_drewN | apply below_alloc))) (first
    | (go_at_call 35; (with_reducible refine (marginaliaref16_Number.calls 9 A1 c1 tk nx _ ?s1 ?s2 HNUM1.out).mono ?_); (case s1 => exact TK2.out _ (Kd.C_below HC5.out (show Below w5.heap.size w5 _ from by repeat (first | exact HBb.out | exact Below.refl _ _ | apply below_drew1 | apply pw_below_drewN | apply below_alloc)))); (case s2 => exact TK3.out); rintro e w6 ⟨rfl, hd⟩; obtain ⟨n6, rfl⟩ := hd.out; clear hd)
    | (go_at_call 35; (with_reducible refine (marginaliaref16_Number.calls 9 A3 c3 md nw _ ?s1 ?s2 HNUM2.out).mono ?_); (case s1 => exact MD2.out _ (Kd.C_below HC5.out (show Below w5.heap.size w5 _ from by repeat (first | exact HBb.out | exact Below.refl _ _ | apply below_drew1 | apply pw_below_drewN | apply below_alloc)))); (case s2 => exact MD3.out); rintro e w7 ⟨rfl, hd⟩; obtain ⟨n7, rfl⟩ := hd.out; clear hd)
    | (go_at_call 35; (with_reducible refine (marginaliaref16_Number.calls 9 A2 c2 dr cu _ ?s1 ?s2 HNUM3.out).mono ?_); (case s1 => exact DR2.out _ (Kd.C_below HC5.out (show Below w5.heap.size w5 _ from by repeat (first | exact HBb.out | exact Below.refl _ _ | apply below_drew1 | apply pw_below_drewN | apply below_alloc)))); (case s2 => exact DR3.out); rintro e w8 ⟨rfl, hd⟩; obtain ⟨n8, rfl⟩ := hd.out; clear hd))
  go_wp2
  refine bodyPost_ret (results_list (rs := [.tmp 2, .tmp 3, .tmp 4, .tmp 5]) rfl (by simp) (.tmp (.tmp (.tmp (.tmp .nil))))) rfl ?_
  exact ⟨rfl, HB5.out.trans ((by repeat (first | exact HBb.out | exact Below.refl _ _ | apply below_drew1 | apply pw_below_drewN | apply below_alloc) : Below w5.heap.size w5 _).mono HB5.out.size)⟩
set_option maxHeartbeats 4000000 in
set_option maxRecDepth 100000 in
theorem head_h6 {w : World} {A1 : Option Addr} {c1 : Nat} {bs : List Int} (hC1 : (Kd.int .u8).C w A1 bs.length bs) (hl1 : bs.length ≤ c1) (hby : Bytes bs) (s2 : bs.length = 24) {nx nw cu : Int} (hnx : ((valN (bs.take 8) : Nat) : Int) = nx) (hnw : ((valN ((bs.take 16).drop 8) : Nat) : Int) = nw) (hcu : ((valN (bs.drop 16) : Nat) : Int) = cu) (b1 : 1 ≤ nx) (b2 : nx < 9223372036854775808) (b3 : nw ≤ 100) {b : Bool} (b4 : decide (cu < nx) = b) :
    Calls Try.prog 33 #[.agg #[.int .u64 18446744073709551615, .slice A1 bs.length c1]] w fun e w' => e = .returned (.tuple #[.int .u64 nx, .int .u64 nw, .int .u64 cu, .bool b]) ∧ Below w.heap.size w w' := by
  have m1 : (bs.take 8).length = 8 := by rw [List.length_take]; omega
  have m2 : ((bs.take 16).drop 8).length = 8 := by rw [List.length_drop, List.length_take]; omega
  have m3 : (bs.drop 16).length = 8 := by rw [List.length_drop]; omega
  have by1 := bytes_take hby 8
  have by2 := bytes_drop (bytes_take hby 16) 8
  have by3 := bytes_drop hby 16
  have hnum1 : marginaliaref16_Number.f 9 (bs.take 8) = some nx := by rw [← hnx]; exact refNum_is _ by1 (by omega) 9 (by omega)
  have hnum2 : marginaliaref16_Number.f 9 ((bs.take 16).drop 8) = some nw := by rw [← hnw]; exact refNum_is _ by2 (by omega) 9 (by omega)
  have hnum3 : marginaliaref16_Number.f 9 (bs.drop 16) = some cu := by rw [← hcu]; exact refNum_is _ by3 (by omega) 9 (by omega)
  obtain ⟨i0, hi5, _, hsz5, _⟩ := info_parts info5
  obtain ⟨tk1, tk2, tk3⟩ := print_take_of (P := Try.prog) (Value.int .u8) (0 : Int) 50 5 .i64 Try.underlying50 hi5 hsz5 A1 c1 bs 8 (by omega) (by omega) hl1
  have tk1' : ∀ W : World, (Instr.slice 50 (.slice A1 bs.length c1) none (some (.int .i64 8)) none).run Try.prog W = .ok (.slice A1 (bs.take 8).length c1) W := tk1
  have TK2 := Aside0.mk (show ∀ W, (Kd.int .u8).C W A1 bs.length bs → (Kd.int .u8).C W A1 (bs.take 8).length (bs.take 8) from fun W hC => Kd.C_of_reads (h1 := fun _ => rfl) (tk2 W (Kd.reads_of_C hC)))
  have TK3 := Aside0.mk (show (bs.take 8).length ≤ c1 from tk3)
  obtain ⟨A2, dr1, dr2, dr3⟩ := print_drop_of (P := Try.prog) (Value.int .u8) (0 : Int) 50 5 .i64 Try.underlying50 hi5 hsz5 A1 c1 bs 16 (by omega) (by omega) hl1
  obtain ⟨c2, hc2⟩ : ∃ c2, c1 - (16 : Int).toNat = c2 := ⟨_, rfl⟩
  rw [hc2] at dr1 dr3
  have dr1' : ∀ W : World, (Instr.slice 50 (.slice A1 bs.length c1) (some (.int .i64 16)) none none).run Try.prog W = .ok (.slice A2 (bs.drop 16).length c2) W := dr1
  have DR2 := Aside0.mk (show ∀ W, (Kd.int .u8).C W A1 bs.length bs → (Kd.int .u8).C W A2 (bs.drop 16).length (bs.drop 16) from fun W hC => Kd.C_of_reads (h1 := fun _ => rfl) (dr2 W (Kd.reads_of_C hC)))
  have DR3 := Aside0.mk (show (bs.drop 16).length ≤ c2 from dr3)
  obtain ⟨A3, md1, md2, md3⟩ := print_mid_of (P := Try.prog) (Value.int .u8) (0 : Int) 50 5 .i64 .i64 Try.underlying50 hi5 hsz5 A1 c1 bs 8 16 (by omega) (by omega) (by omega) hl1
  obtain ⟨c3, hc3⟩ : ∃ c3, c1 - (8 : Int).toNat = c3 := ⟨_, rfl⟩
  rw [hc3] at md1 md3
  have md1' : ∀ W : World, (Instr.slice 50 (.slice A1 bs.length c1) (some (.int .i64 8)) (some (.int .i64 16)) none).run Try.prog W = .ok (.slice A3 ((bs.take 16).drop 8).length c3) W := md1
  have MD2 := Aside0.mk (show ∀ W, (Kd.int .u8).C W A1 bs.length bs → (Kd.int .u8).C W A3 ((bs.take 16).drop 8).length ((bs.take 16).drop 8) from fun W hC => Kd.C_of_reads (h1 := fun _ => rfl) (md2 W (Kd.reads_of_C hC)))
  have MD3 := Aside0.mk (show ((bs.take 16).drop 8).length ≤ c3 from md3)
  have HNUM1 := Aside0.mk hnum1
  have HNUM2 := Aside0.mk hnum2
  have HNUM3 := Aside0.mk hnum3
  obtain ⟨tk, htk⟩ : ∃ tk, bs.take 8 = tk := ⟨_, rfl⟩
  obtain ⟨dr, hdr⟩ : ∃ dr, bs.drop 16 = dr := ⟨_, rfl⟩
  obtain ⟨md, hmd⟩ : ∃ md, (bs.take 16).drop 8 = md := ⟨_, rfl⟩
  rw [htk] at tk1' TK2 TK3 HNUM1
  rw [hdr] at dr1' DR2 DR3 HNUM3
  rw [hmd] at md1' MD2 MD3 HNUM2
  have d1 : ((bs.length : Int) != 24) = false := bne_eq_false_iff_eq.2 (by omega)
  have e1 : decide (1 ≤ nx) = true := decide_eq_true b1
  have e2 : decide (nx < 9223372036854775808) = true := decide_eq_true b2
  have e3 : decide (nw ≤ 100) = true := decide_eq_true b3
  have HC1 := Aside0.mk hC1
  clear hC1 hby s2 hnx hnw hcu m1 m2 m3 by1 by2 by3 hnum1 hnum2 hnum3 tk1 tk2 tk3 dr1 dr2 dr3 md1 md2 md3 hc2 hc3 htk hdr hmd hi5 hsz5 hl1 b1 b2 b3
  go_enter Try.func33, Try.ntmps33
  go_wp2_with ((with_reducible refine gate_dst (N := 1) rfl ?_); refine box_event ?hg (N := 1) ?hd (cs := #[.int .u64 18446744073709551615, .slice A1 bs.length c1]) (t := 52) ?hr ?_; (case hd => rfl); (case hg => rfl); (case hr => first | (go_simp; done) | (go_simp; rfl)); intro gb hg w5 hbox hb; have HB5 := Aside0.mk hb; have BK5 := Aside0.mk hbox; have c0 : w5.cell? ⟨gb, 0, none⟩ = some (.int .u64 18446744073709551615) := (blk_cell hbox 0).trans rfl; have c1' : w5.cell? ⟨gb, 1, none⟩ = some (.slice A1 bs.length c1) := (blk_cell hbox 1).trans rfl; clear hg hbox hb)
  have HC5 := Aside0.mk (Kd.C_below HC1.out HB5.out)
  have HBb := Aside0.mk (Below.refl w5.heap.size w5)
  have HSa := Aside0.mk (show ∀ W, Below w5.heap.size w5 W → W.cell? ⟨gb, 1, none⟩ = some (.slice A1 bs.length c1) from fun W hW => (blk_cell (blk_below BK5.out hW) 1).trans rfl)
  go_region_held3 (fun W => W.cell? ⟨gb, 1, none⟩ = some (.slice A1 bs.length c1)) ((refine HSa.out _ ?_; repeat (first | exact HBb.out | exact Below.refl _ _ | apply below_drew1 | apply pw_below_drewN | apply below_alloc))) (first
    | (go_at_call 35; (with_reducible refine (marginaliaref16_Number.calls 9 A1 c1 tk nx _ ?s1 ?s2 HNUM1.out).mono ?_); (case s1 => exact TK2.out _ (Kd.C_below HC5.out (show Below w5.heap.size w5 _ from by repeat (first | exact HBb.out | exact Below.refl _ _ | apply below_drew1 | apply pw_below_drewN | apply below_alloc)))); (case s2 => exact TK3.out); rintro e w6 ⟨rfl, hd⟩; obtain ⟨n6, rfl⟩ := hd.out; clear hd)
    | (go_at_call 35; (with_reducible refine (marginaliaref16_Number.calls 9 A3 c3 md nw _ ?s1 ?s2 HNUM2.out).mono ?_); (case s1 => exact MD2.out _ (Kd.C_below HC5.out (show Below w5.heap.size w5 _ from by repeat (first | exact HBb.out | exact Below.refl _ _ | apply below_drew1 | apply pw_below_drewN | apply below_alloc)))); (case s2 => exact MD3.out); rintro e w7 ⟨rfl, hd⟩; obtain ⟨n7, rfl⟩ := hd.out; clear hd)
    | (go_at_call 35; (with_reducible refine (marginaliaref16_Number.calls 9 A2 c2 dr cu _ ?s1 ?s2 HNUM3.out).mono ?_); (case s1 => exact DR2.out _ (Kd.C_below HC5.out (show Below w5.heap.size w5 _ from by repeat (first | exact HBb.out | exact Below.refl _ _ | apply below_drew1 | apply pw_below_drewN | apply below_alloc)))); (case s2 => exact DR3.out); rintro e w8 ⟨rfl, hd⟩; obtain ⟨n8, rfl⟩ := hd.out; clear hd))
  go_wp2
  refine bodyPost_ret (results_list (rs := [.tmp 2, .tmp 3, .tmp 4, .tmp 5]) rfl (by simp) (.tmp (.tmp (.tmp (.tmp .nil))))) rfl ?_
  exact ⟨rfl, HB5.out.trans ((by repeat (first | exact HBb.out | exact Below.refl _ _ | apply below_drew1 | apply pw_below_drewN | apply below_alloc) : Below w5.heap.size w5 _).mono HB5.out.size)⟩
end Go.Proofs.Ytjfkenjmjoncbaa.Lg

end

section
namespace Go.Proofs.Ytjfkenjmjoncbaa.PAll
open Go.RowKit Go.Proofs.YtjfkenjmjoncbaaW.PrintWords Go.Proofs.YtjfkenjmjoncbaaW.PrintLast Go.Proofs.YtjfkenjmjoncbaaW.PrintMore
attribute [local go_sem] max2_int min2_int max_two min_two max_three min_three max_four min_four   -- for this text's walks alone
set_option linter.unusedVariables false
set_option linter.unusedSimpArgs false

def marginaliaref23_Stale.l0 : Nat → Int → List (S42) → List ByteArray → Int → Int → Option (Int × Int × ByteArray × Bool)
  | 0, _, _, _, _, _ => none
  | k + 1, x4, x290000, x290001, x290002, x290003 => if x4 < (x290000.length : Int) then (if 0 ≤ x4 then ((marginaliaref23_Newest.f x290000 x290001 x290002 x290003).bind fun t292 => (if ((rd_T42 x290000 x4).f1) = t292 then (marginaliaref23_Stale.l0 k (wrap64 (x4 + 1)) x290000 x290001 x290002 x290003) else (if ((rd_T42 x290000 x4).f0) > x290003 then (some ((rd_T42 x290000 x4).f0, (rd_T42 x290000 x4).f1, (rd_T42 x290000 x4).f2, true)) else (marginaliaref23_Stale.l0 k (wrap64 (x4 + 1)) x290000 x290001 x290002 x290003)))) else (none)) else (some (0, 0, (⟨#[]⟩ : ByteArray), false))
def marginaliaref23_Stale.f (k : Nat) (l0_0 : List (S42)) (l0_1 : List ByteArray) (a0_2 : Int) (a0_3 : Int) : Option (Int × Int × ByteArray × Bool) := marginaliaref23_Stale.l0 k 0 l0_0 l0_1 a0_2 a0_3
def marginaliaref23_Stale.T4 : Bool × List (List Nat × List Nat) := (true, [([], []), ([0], [0]), ([], []), ([1, 2], [1, 2]), ([3], [3]), ([4], [4]), ([], []), ([6], [6]), ([5, 7], [5, 7]), ([8, 7], [8]), ([9], [9]), ([10, 9], [9, 10]), ([9], [9]), ([11, 12, 9], [9, 11, 12]), ([13, 9], [9, 13]), ([14, 9], [9, 14]), ([9], [9]), ([16, 9], [9, 16]), ([15, 17, 9], [9, 15, 17]), ([9, 18], [9, 18])])
def marginaliaref23_Stale.B4 : List Nat := [0, 1, 0, 7, 15, 31, 0, 64, 255, 511, 1023, 2047, 1023, 8191, 16383, 32767, 1023, 66559, 262143, 524287]
theorem marginaliaref23_Stale.tab4 : rtab .any (opsOf Try.f37 4) = marginaliaref23_Stale.T4 := by kernel_rfl
theorem marginaliaref23_Stale.bits4 : waitsOk marginaliaref23_Stale.T4.2 marginaliaref23_Stale.B4 = true := by kernel_rfl
set_option maxHeartbeats 8000000 in
set_option maxRecDepth 100000 in
theorem marginaliaref23_Stale.calls (k : Nat) (A0_0 : Option Addr) (c0_0 : Nat) (l0_0 : List (S42)) (A0_1 : Option Addr) (c0_1 : Nat) (l0_1 : List ByteArray) (a0_2 : Int) (a0_3 : Int) (r1 : Int) (r2 : Int) (r3 : ByteArray) (r4 : Bool) (w : World) (hr0_0 : Kd.C k42 w A0_0 l0_0.length l0_0) (hc0_0 : l0_0.length ≤ c0_0) (hr0_1 : Kd.C Kd.string w A0_1 l0_1.length l0_1) (hc0_1 : l0_1.length ≤ c0_1) (h : marginaliaref23_Stale.f k l0_0 l0_1 a0_2 a0_3 = some (r1, r2, r3, r4)) :
    Calls Try.prog 37 #[.agg #[.slice A0_0 l0_0.length c0_0, .slice A0_1 l0_1.length c0_1, .int .u64 a0_2, .int .u64 a0_3]] w fun e w' => e = .returned (.tuple #[.agg #[.int .u64 r1, .int .u64 r2, .string r3], .bool r4]) ∧ Below w.heap.size w w' := by
  have hu58 := Try.underlying58
  have hu42 := Try.underlying42
  have HR0_0 := Aside0.mk hr0_0
  have HC0_0 := Aside0.mk hc0_0
  clear hr0_0 hc0_0
  have HR0_1 := Aside0.mk hr0_1
  have HC0_1 := Aside0.mk hc0_1
  clear hr0_1 hc0_1
  have HB := Aside0.mk (Below.refl w.heap.size w)
  have H : (marginaliaref23_Stale.l0 k 0 l0_0 l0_1 a0_2 a0_3) = some (r1, r2, r3, r4) := h
  clear h
  have H' := Aside0.mk H
  clear H
  go_enter Try.func37, Try.ntmps37
  go_wp2_with (first | ((with_reducible refine gate_dst (N := 1) rfl ?_); refine box_event ?hg (N := 1) ?hd (cs := #[.slice A0_0 l0_0.length c0_0, .slice A0_1 l0_1.length c0_1, .int .u64 a0_2, .int .u64 a0_3]) (t := 58) ?hr ?_; (case hd => rfl); (case hg => rfl); (case hr => first | (go_simp; done) | (go_simp; rfl)); intro gb289 hg w2 hbox hb; have n0_ := Aside0.mk (below_step (by repeat (first | (with_reducible first | exact HB.out | apply below_alloc | apply pw_below_drewN | apply below_drew1) | exact HB.out)) hb); have n1_ := Aside0.mk (hbox); have n2_ := Aside0.mk ((by rw [hg]; exact (below_size (by repeat (first | (with_reducible first | exact HB.out | apply below_alloc | apply pw_below_drewN | apply below_drew1) | exact HB.out))) : w.heap.size ≤ gb289)); have n3_ := Aside0.mk ((by rw [hg]; exact (below_size (by repeat (first | (with_reducible first | exact HB.out | apply below_alloc | apply pw_below_drewN | apply below_drew1) | exact HB.out))) : w.heap.size ≤ gb289)); clear HB; have HB := n0_; have BK289 := n1_; have GW289 := n2_; have GE289 := n3_; clear n0_ n1_ n2_ n3_; clear hb hbox hg) | ((with_reducible refine gate_dst (N := 2) rfl ?_); refine box_event ?hg (N := 2) ?hd (cs := #[.int .u64 0, .int .u64 0, .string (⟨#[]⟩ : ByteArray)]) (t := 42) ?hr ?_; (case hd => rfl); (case hg => rfl); (case hr => first | (go_simp; done) | (go_simp; rfl)); intro gb290 hg w3 hbox hb; have n0_ := Aside0.mk (blk_below (g := gb289) (o := .cells #[.slice A0_0 l0_0.length c0_0, .slice A0_1 l0_1.length c0_1, .int .u64 a0_2, .int .u64 a0_3] 58 (0, 0)) (by (with_reducible repeat (first | refine blk_drewN ?_ _ | refine blk_drew ?_ | refine blk_alloc ?_ _)); exact BK289.out) hb); have n1_ := Aside0.mk (below_step (by repeat (first | (with_reducible first | exact HB.out | apply below_alloc | apply pw_below_drewN | apply below_drew1 | refine below_set ?_ GE289.out) | exact HB.out)) hb); have n2_ := Aside0.mk (hbox); have n3_ := Aside0.mk ((by rw [hg]; exact (below_size (by repeat (first | (with_reducible first | exact HB.out | apply below_alloc | apply pw_below_drewN | apply below_drew1 | refine below_set ?_ GE289.out) | exact HB.out))) : w.heap.size ≤ gb290)); have n4_ := Aside0.mk ((by rw [hg]; exact (below_size (by repeat (first | (with_reducible first | exact HB.out | apply below_alloc | apply pw_below_drewN | apply below_drew1 | refine below_set ?_ GE289.out) | exact HB.out))) : w.heap.size ≤ gb290)); have n5_ := Aside0.mk ((by rw [hg]; exact Nat.ne_of_lt (blk_lt (g := gb289) (o := .cells #[.slice A0_0 l0_0.length c0_0, .slice A0_1 l0_1.length c0_1, .int .u64 a0_2, .int .u64 a0_3] 58 (0, 0)) (by (with_reducible repeat (first | refine blk_drewN ?_ _ | refine blk_drew ?_ | refine blk_alloc ?_ _)); exact BK289.out)) : gb289 ≠ gb290)); have n6_ := Aside0.mk ((by rw [hg]; exact Nat.ne_of_gt (blk_lt (g := gb289) (o := .cells #[.slice A0_0 l0_0.length c0_0, .slice A0_1 l0_1.length c0_1, .int .u64 a0_2, .int .u64 a0_3] 58 (0, 0)) (by (with_reducible repeat (first | refine blk_drewN ?_ _ | refine blk_drew ?_ | refine blk_alloc ?_ _)); exact BK289.out)) : gb290 ≠ gb289)); clear BK289; clear HB; have BK289 := n0_; have HB := n1_; have BK290 := n2_; have GW290 := n3_; have GE290 := n4_; have NB289_290 := n5_; have NB290_289 := n6_; clear n0_ n1_ n2_ n3_ n4_ n5_ n6_; clear hb hbox hg))
  go_loopg [4] k (fun kq v4 w' => ∃ (x4_1 : Int) (x291000_1 : Int) (x291001_1 : Int) (x291002_1 : ByteArray), v4 = .int .i64 x4_1 ∧ Aside0 (marginaliaref23_Stale.l0 kq x4_1 l0_0 l0_1 a0_2 a0_3 = some (r1, r2, r3, r4)) ∧ Aside0 (kq ≤ k) ∧ Aside0 (w'.heap[gb289]? = some (.cells #[(.slice A0_0 l0_0.length c0_0), (.slice A0_1 l0_1.length c0_1), .int .u64 a0_2, .int .u64 a0_3] 58 (0, 0))) ∧ Aside0 (w'.heap[gb290]? = some (.cells #[.int .u64 x291000_1, .int .u64 x291001_1, .string x291002_1] 42 (0, 0))) ∧ Aside0 (Below w.heap.size w w'))
  case atStart => exact ⟨(0), (0), (0), ((⟨#[]⟩ : ByteArray)), (by first | rfl | (simp; done) | (simp [*]; done)), H', ⟨Nat.le_refl _⟩, ⟨by (with_reducible repeat (first | refine blk_drewN ?_ _ | refine blk_drew ?_ | refine blk_alloc ?_ _)); exact BK289.out⟩, ⟨by (with_reducible repeat (first | refine blk_drewN ?_ _ | refine blk_drew ?_ | refine blk_alloc ?_ _)); exact BK290.out⟩, ⟨by repeat (first | (with_reducible first | exact HB.out | apply below_alloc | apply pw_below_drewN | apply below_drew1 | refine below_set ?_ GE289.out | refine below_set ?_ GE290.out) | exact HB.out)⟩⟩
  case round =>
    clear H'
    try clear p2
    try clear c3
    obtain ⟨x4_1, x291000_1, x291001_1, x291002_1, rfl, HA, HK1, BK289, BK290, HB⟩ := hrel
    cases gk with
    | zero => exact absurd HA.out (by simp [marginaliaref23_Stale.l0])
    | succ k1 =>
      have H := HA.out
      clear HA
      simp only [marginaliaref23_Stale.l0] at H
      by_cases c4 : x4_1 < (l0_0.length : Int)
      · rw [if_pos c4] at H
        have c4b0 : decide (x4_1 < (l0_0.length : Int)) = true := decide_eq_true c4
        clear c4
        by_cases c5 : 0 ≤ x4_1
        · rw [if_pos c5] at H
          have c5b0 : decide (0 ≤ x4_1) = true := decide_eq_true c5
          clear c5
          replace H := Option.bind_eq_some_iff.mp H
          obtain ⟨t292, A60, H⟩ := H
          replace H : (if ((rd_T42 l0_0 x4_1).f1) = t292 then (marginaliaref23_Stale.l0 k1 (wrap64 (x4_1 + 1)) l0_0 l0_1 a0_2 a0_3) else (if ((rd_T42 l0_0 x4_1).f0) > a0_3 then (some ((rd_T42 l0_0 x4_1).f0, (rd_T42 l0_0 x4_1).f1, (rd_T42 l0_0 x4_1).f2, true)) else (marginaliaref23_Stale.l0 k1 (wrap64 (x4_1 + 1)) l0_0 l0_1 a0_2 a0_3))) = some (r1, r2, r3, r4) := H
          have A6 := Aside0.mk A60
          clear A60
          by_cases c7 : ((rd_T42 l0_0 x4_1).f1) = t292
          · rw [if_pos c7] at H
            have c7b0 : (((rd_T42 l0_0 x4_1).f1) == t292) = true := beq_iff_eq.mpr c7
            have c7b1 : (((rd_T42 l0_0 x4_1).f1) != t292) = false := bne_eq_false_iff_eq.mpr c7
            clear c7
            have H' := Aside0.mk H
            clear H
            have hnb8 := NB289_290.out
            have hnc8 := NB290_289.out
            have hcz9_0 : wr.cell? ⟨gb289, 0, none⟩ = some (.slice A0_0 l0_0.length c0_0) := (blk_cell BK289.out 0).trans rfl
            have hcz9_1 : wr.cell? ⟨gb289, 1, none⟩ = some (.slice A0_1 l0_1.length c0_1) := (blk_cell BK289.out 1).trans rfl
            have hcz9_2 : wr.cell? ⟨gb289, 2, none⟩ = some (.int .u64 a0_2) := (blk_cell BK289.out 2).trans rfl
            have hcz9_3 : wr.cell? ⟨gb289, 3, none⟩ = some (.int .u64 a0_3) := (blk_cell BK289.out 3).trans rfl
            have hfz9_0 := blk_frozen BK289.out 0
            have hfz9_1 := blk_frozen BK289.out 1
            have hfz9_2 := blk_frozen BK289.out 2
            have hfz9_3 := blk_frozen BK289.out 3
            try go_wp2
            have n0_ := Aside0.mk (blk_drew BK289.out)
            have n1_ := Aside0.mk (blk_drew BK290.out)
            have n2_ := Aside0.mk (below_drew1 HB.out)
            clear BK289
            clear BK290
            clear HB
            have BK289 := n0_
            have BK290 := n1_
            have HB := n2_
            clear n0_ n1_ n2_
            have p291 : 0 ≤ (x4_1 : Int) := of_decide_eq_true (by first | (with_reducible assumption) | assumption)
            have q291 : x4_1 < (l0_0.length : Int) := of_decide_eq_true (by first | (with_reducible assumption) | assumption)
            obtain ⟨ad291, e291, hx291_0, hx291_1, hx291_2⟩ := at_T42 HR0_0.out x4_1 p291 q291
            have hw291_2 := hx291_2
            have hw291_1 := hx291_1
            have hw291_0 := hx291_0
            cases e291
            replace hx291_0 := (HB.out.cell (World.block_lt_of_cell? w _ hx291_0)).trans hx291_0
            replace hx291_1 := (HB.out.cell (World.block_lt_of_cell? w _ hx291_1)).trans hx291_1
            replace hx291_2 := (HB.out.cell (World.block_lt_of_cell? w _ hx291_2)).trans hx291_2
            replace p291 := eq_true p291
            replace q291 := eq_true q291
            refine start_ (n := 20) (S := fun w' => w'.cell? ⟨gb289, 0, none⟩ = some (.slice (some ad291) l0_0.length c0_0) ∧ w'.cell? ⟨gb289, 1, none⟩ = some (.slice A0_1 l0_1.length c0_1) ∧ w'.cell? ⟨gb289, 2, none⟩ = some (.int .u64 a0_2) ∧ w'.cell? ⟨gb289, 3, none⟩ = some (.int .u64 a0_3) ∧ w'.cell? (ad291.add ((x4_1).toNat * 3)) = some (.int .u64 ((rd_T42 l0_0 x4_1).f0)) ∧ w'.cell? ⟨(ad291.add ((x4_1).toNat * 3)).block, (ad291.add ((x4_1).toNat * 3)).off + 1, none⟩ = some (.int .u64 ((rd_T42 l0_0 x4_1).f1)) ∧ w'.cell? ⟨(ad291.add ((x4_1).toNat * 3)).block, (ad291.add ((x4_1).toNat * 3)).off + 2, none⟩ = some (.string ((rd_T42 l0_0 x4_1).f2))) (ds := []) #[false, false, false, false, false, false, false, false, false, false, false, false, false, false, false, false, false, false, false, false] (by kernel_rfl) rfl rfl ⟨(blk_cell BK289.out 0).trans rfl, (blk_cell BK289.out 1).trans rfl, (blk_cell BK289.out 2).trans rfl, (blk_cell BK289.out 3).trans rfl, ((HB.out.cell (World.block_lt_of_cell? w _ hw291_0)).trans hw291_0), ((HB.out.cell (World.block_lt_of_cell? w _ hw291_1)).trans hw291_1), ((HB.out.cell (World.block_lt_of_cell? w _ hw291_2)).trans hw291_2)⟩ (fun hHeld => ?_); refine with_tabW marginaliaref23_Stale.tab4 marginaliaref23_Stale.bits4 (fun HT_ HW_ => ?_)
            generalize wr.drew = w10 at BK289 BK290 HB hx291_0 hx291_1 hx291_2 hHeld ⊢
            refine pure_ (i := 0) (N := some 12) (v := ?_) (a' := ?_) #[true, false, false, false, false, false, false, false, false, false, false, false, false, false, false, false, false, false, false, false] rfl rfl (any_of HT_.out (by kernel_rfl)) (fun _ _ _ h => h) (Or.inl ⟨by rfl, ?_⟩) ?_ ?_
            rotate_left
            · intro w'
              go_simp
              with_reducible rfl
            rotate_left
            · simp only [Act.put, List.setIfInBounds_toArray, List.set_cons_zero, List.set_cons_succ, i64_w, i32_w]
              rfl
            refine pure_ (i := 2) (N := some 14) (v := ?_) (a' := ?_) #[true, false, true, false, false, false, false, false, false, false, false, false, false, false, false, false, false, false, false, false] rfl rfl (any_of HT_.out (by kernel_rfl)) (fun _ _ _ h => h) (Or.inl ⟨by rfl, ?_⟩) ?_ ?_
            rotate_left
            · intro w'
              go_simp
              with_reducible rfl
            rotate_left
            · simp only [Act.put, List.setIfInBounds_toArray, List.set_cons_zero, List.set_cons_succ, i64_w, i32_w]
              rfl
            refine take_ (i := 1) (N := some 13) (v := ?_) (a' := ?_) #[true, true, true, false, false, false, false, false, false, false, false, false, false, false, false, false, false, false, false, false] rfl rfl (take_ofW HT_.out HW_.out (by kernel_rfl)) (fun _ _ _ h => h) (Or.inl ⟨by rfl, ?_⟩) hHeld ?_ ?_
            rotate_left
            · rintro w' ⟨s0, s1, s2, s3, s4, s5, s6⟩
              go_simp
              with_reducible rfl
            rotate_left
            · simp only [Act.put, List.setIfInBounds_toArray, List.set_cons_zero, List.set_cons_succ, i64_w, i32_w]
              rfl
            refine pure_ (i := 3) (N := some 15) (v := ?_) (a' := ?_) #[true, true, true, true, false, false, false, false, false, false, false, false, false, false, false, false, false, false, false, false] rfl rfl (any_of HT_.out (by kernel_rfl)) (fun _ _ _ h => h) (Or.inl ⟨by rfl, ?_⟩) ?_ ?_
            rotate_left
            · intro w'
              go_simp
              with_reducible rfl
            rotate_left
            · simp only [Act.put, List.setIfInBounds_toArray, List.set_cons_zero, List.set_cons_succ, i64_w, i32_w]
              rfl
            refine pure_ (i := 4) (N := some 16) (v := ?_) (a' := ?_) #[true, true, true, true, true, false, false, false, false, false, false, false, false, false, false, false, false, false, false, false] rfl rfl (any_of HT_.out (by kernel_rfl)) (fun _ _ _ h => h) (Or.inl ⟨by rfl, ?_⟩) ?_ ?_
            rotate_left
            · intro w'
              go_simp
              with_reducible rfl
            rotate_left
            · simp only [Act.put, List.setIfInBounds_toArray, List.set_cons_zero, List.set_cons_succ, i64_w, i32_w]
              rfl
            refine take_ (i := 5) (N := some 17) (v := ?_) (a' := ?_) #[true, true, true, true, true, true, false, false, false, false, false, false, false, false, false, false, false, false, false, false] rfl rfl (take_ofW HT_.out HW_.out (by kernel_rfl)) (fun _ _ _ h => h) (Or.inl ⟨by rfl, ?_⟩) hHeld ?_ ?_
            rotate_left
            · rintro w' ⟨s0, s1, s2, s3, s4, s5, s6⟩
              go_simp
              with_reducible rfl
            rotate_left
            · simp only [Act.put, List.setIfInBounds_toArray, List.set_cons_zero, List.set_cons_succ, i64_w, i32_w]
              rfl
            refine take_ (i := 6) (N := some 18) (v := ?_) (a' := ?_) #[true, true, true, true, true, true, true, false, false, false, false, false, false, false, false, false, false, false, false, false] rfl rfl (take_ofW HT_.out HW_.out (by kernel_rfl)) (fun _ _ _ h => h) (Or.inl ⟨by rfl, ?_⟩) hHeld ?_ ?_
            rotate_left
            · rintro w' ⟨s0, s1, s2, s3, s4, s5, s6⟩
              go_simp
              with_reducible rfl
            rotate_left
            · simp only [Act.put, List.setIfInBounds_toArray, List.set_cons_zero, List.set_cons_succ, i64_w, i32_w]
              rfl
            refine one_ (i := 7) (N := some 19) #[true, true, true, true, true, true, true, true, false, false, false, false, false, false, false, false, false, false, false, false] rfl rfl (one_of HT_.out (by kernel_rfl)) (by decide) (fun K hK => ?_)
            refine goes_ Try.func34 (by kernel_rfl) rfl #[.agg #[.slice (some ad291) l0_0.length c0_0, .slice A0_1 l0_1.length c0_1, .int .u64 a0_2, .int .u64 a0_3]] (by rfl) rfl rfl (by (try simp only [List.map_toArray, List.map_cons, List.map_nil]); first | done | rfl | (simp only [List.length_drop, List.length_take]; rfl)) ?_
            with_reducible refine (marginaliaref23_Newest.calls _ _ l0_0 _ _ l0_1 a0_2 a0_3 t292 _ ?side1 ?side2 ?side3 ?side4 A6.out).mono ?_
            (case side1 => repeat (first | exact (Kd.C_below HR0_0.out HB.out) | (with_reducible refine Kd.C_alloc ?_ _) | (with_reducible refine Kd.C_drewN ?_ _) | (with_reducible refine Kd.C_drew ?_)))
            (case side2 => exact HC0_0.out)
            (case side3 => repeat (first | exact (Kd.C_below HR0_1.out HB.out) | (with_reducible refine Kd.C_alloc ?_ _) | (with_reducible refine Kd.C_drewN ?_ _) | (with_reducible refine Kd.C_drew ?_)))
            (case side4 => exact HC0_1.out)
            rintro e w11 ⟨rfl, hb⟩
            refine ⟨_, rfl, ?_⟩
            have n0_ := Aside0.mk (blk_below (g := gb289) (o := .cells #[.slice (some ad291) l0_0.length c0_0, .slice A0_1 l0_1.length c0_1, .int .u64 a0_2, .int .u64 a0_3] 58 (0, 0)) (by (with_reducible repeat (first | refine blk_drewN ?_ _ | refine blk_drew ?_ | refine blk_alloc ?_ _)); exact BK289.out) hb)
            have n1_ := Aside0.mk (blk_below (g := gb290) (o := .cells #[.int .u64 x291000_1, .int .u64 x291001_1, .string x291002_1] 42 (0, 0)) (by (with_reducible repeat (first | refine blk_drewN ?_ _ | refine blk_drew ?_ | refine blk_alloc ?_ _)); exact BK290.out) hb)
            have n2_ := Aside0.mk (below_step (by repeat (first | (with_reducible first | exact HB.out | apply below_alloc | apply pw_below_drewN | apply below_drew1 | refine below_set ?_ GE289.out | refine below_set ?_ GE290.out) | exact HB.out)) hb)
            clear BK289
            clear BK290
            clear HB
            have BK289 := n0_
            have BK290 := n1_
            have HB := n2_
            clear n0_ n1_ n2_
            (try clear hb)
            (try clear hb2)
            (try clear hk)
            (try clear hi)
            refine hK.out _ _ ⟨(blk_cell BK289.out 0).trans rfl, (blk_cell BK289.out 1).trans rfl, (blk_cell BK289.out 2).trans rfl, (blk_cell BK289.out 3).trans rfl, ((HB.out.cell (World.block_lt_of_cell? w _ hw291_0)).trans hw291_0), ((HB.out.cell (World.block_lt_of_cell? w _ hw291_1)).trans hw291_1), ((HB.out.cell (World.block_lt_of_cell? w _ hw291_2)).trans hw291_2)⟩ (fun hHeld => ?_)
            clear hK K
            refine norm_ (a' := ?_) ?_ ?_
            rotate_left
            · show Act.put _ (some 19) _ = _
              simp only [Act.put, List.setIfInBounds_toArray, List.set_cons_zero, List.set_cons_succ, i64_w, i32_w]
              rfl
            refine pure_ (i := 8) (N := some 20) (v := ?_) (a' := ?_) #[true, true, true, true, true, true, true, true, true, false, false, false, false, false, false, false, false, false, false, false] rfl rfl (any_of HT_.out (by kernel_rfl)) (fun _ _ _ h => h) (Or.inl ⟨by rfl, ?_⟩) ?_ ?_
            rotate_left
            · intro w'
              go_simp
              with_reducible rfl
            rotate_left
            · simp only [Act.put, List.setIfInBounds_toArray, List.set_cons_zero, List.set_cons_succ, i64_w, i32_w]
              rfl
            refine pure_ (i := 9) (N := some 21) (v := ?_) (a' := ?_) #[true, true, true, true, true, true, true, true, true, true, false, false, false, false, false, false, false, false, false, false] rfl rfl (any_of HT_.out (by kernel_rfl)) (fun _ _ _ h => h) (Or.inl ⟨by rfl, ?_⟩) ?_ ?_
            rotate_left
            · intro w'
              go_simp
              with_reducible rfl
            rotate_left
            · simp only [Act.put, List.setIfInBounds_toArray, List.set_cons_zero, List.set_cons_succ, i64_w, i32_w]
              rfl
            refine pure_ (i := 10) (N := some 22) (v := undef) (a' := ?_) #[true, true, true, true, true, true, true, true, true, true, true, false, false, false, false, false, false, false, false, false] rfl rfl (any_of HT_.out (by kernel_rfl)) (fun _ _ _ h => h) (Or.inr ⟨by rfl, rfl⟩) ?_ ?_
            rotate_left
            · simp only [Act.put, List.setIfInBounds_toArray, List.set_cons_zero, List.set_cons_succ, i64_w, i32_w]
              rfl
            refine pure_ (i := 11) (N := some 23) (v := undef) (a' := ?_) #[true, true, true, true, true, true, true, true, true, true, true, true, false, false, false, false, false, false, false, false] rfl rfl (any_of HT_.out (by kernel_rfl)) (fun _ _ _ h => h) (Or.inr ⟨by rfl, rfl⟩) ?_ ?_
            rotate_left
            · simp only [Act.put, List.setIfInBounds_toArray, List.set_cons_zero, List.set_cons_succ, i64_w, i32_w]
              rfl
            refine pure_ (i := 12) (N := some 24) (v := undef) (a' := ?_) #[true, true, true, true, true, true, true, true, true, true, true, true, true, false, false, false, false, false, false, false] rfl rfl (any_of HT_.out (by kernel_rfl)) (fun _ _ _ h => h) (Or.inr ⟨by rfl, rfl⟩) ?_ ?_
            rotate_left
            · simp only [Act.put, List.setIfInBounds_toArray, List.set_cons_zero, List.set_cons_succ, i64_w, i32_w]
              rfl
            refine pure_ (i := 13) (N := some 25) (v := undef) (a' := ?_) #[true, true, true, true, true, true, true, true, true, true, true, true, true, true, false, false, false, false, false, false] rfl rfl (any_of HT_.out (by kernel_rfl)) (fun _ _ _ h => h) (Or.inr ⟨by rfl, rfl⟩) ?_ ?_
            rotate_left
            · simp only [Act.put, List.setIfInBounds_toArray, List.set_cons_zero, List.set_cons_succ, i64_w, i32_w]
              rfl
            refine pure_ (i := 14) (N := some 26) (v := undef) (a' := ?_) #[true, true, true, true, true, true, true, true, true, true, true, true, true, true, true, false, false, false, false, false] rfl rfl (any_of HT_.out (by kernel_rfl)) (fun _ _ _ h => h) (Or.inr ⟨by rfl, rfl⟩) ?_ ?_
            rotate_left
            · simp only [Act.put, List.setIfInBounds_toArray, List.set_cons_zero, List.set_cons_succ, i64_w, i32_w]
              rfl
            refine pure_ (i := 15) (N := some 27) (v := undef) (a' := ?_) #[true, true, true, true, true, true, true, true, true, true, true, true, true, true, true, true, false, false, false, false] rfl rfl (any_of HT_.out (by kernel_rfl)) (fun _ _ _ h => h) (Or.inr ⟨by rfl, rfl⟩) ?_ ?_
            rotate_left
            · simp only [Act.put, List.setIfInBounds_toArray, List.set_cons_zero, List.set_cons_succ, i64_w, i32_w]
              rfl
            refine pure_ (i := 16) (N := some 28) (v := undef) (a' := ?_) #[true, true, true, true, true, true, true, true, true, true, true, true, true, true, true, true, true, false, false, false] rfl rfl (any_of HT_.out (by kernel_rfl)) (fun _ _ _ h => h) (Or.inr ⟨by rfl, rfl⟩) ?_ ?_
            rotate_left
            · simp only [Act.put, List.setIfInBounds_toArray, List.set_cons_zero, List.set_cons_succ, i64_w, i32_w]
              rfl
            refine pure_ (i := 17) (N := some 29) (v := undef) (a' := ?_) #[true, true, true, true, true, true, true, true, true, true, true, true, true, true, true, true, true, true, false, false] rfl rfl (any_of HT_.out (by kernel_rfl)) (fun _ _ _ h => h) (Or.inr ⟨by rfl, rfl⟩) ?_ ?_
            rotate_left
            · simp only [Act.put, List.setIfInBounds_toArray, List.set_cons_zero, List.set_cons_succ, i64_w, i32_w]
              rfl
            refine pure_ (i := 18) (N := some 30) (v := undef) (a' := ?_) #[true, true, true, true, true, true, true, true, true, true, true, true, true, true, true, true, true, true, true, false] rfl rfl (any_of HT_.out (by kernel_rfl)) (fun _ _ _ h => h) (Or.inr ⟨by rfl, rfl⟩) ?_ ?_
            rotate_left
            · simp only [Act.put, List.setIfInBounds_toArray, List.set_cons_zero, List.set_cons_succ, i64_w, i32_w]
              rfl
            refine pure_ (i := 19) (N := some 31) (v := ?_) (a' := ?_) #[true, true, true, true, true, true, true, true, true, true, true, true, true, true, true, true, true, true, true, true] rfl rfl (any_of HT_.out (by kernel_rfl)) (fun _ _ _ h => h) (Or.inl ⟨by rfl, ?_⟩) ?_ ?_
            rotate_left
            · intro w'
              go_simp
              with_reducible rfl
            rotate_left
            · simp only [Act.put, List.setIfInBounds_toArray, List.set_cons_zero, List.set_cons_succ, i64_w, i32_w]
              rfl
            refine done_ (done_of HT_.out (by kernel_rfl)) ?_
            try go_wp2
            go_roundg k1
            case measure => have := HK1.out; omega
            case rel => exact ⟨(wrap64 (x4_1 + 1)), (x291000_1), (x291001_1), (x291002_1), (by first | rfl | (simp; done) | (simp [*]; done)), H', ⟨by have := HK1.out; omega⟩, ⟨by (with_reducible repeat (first | refine blk_drewN ?_ _ | refine blk_drew ?_ | refine blk_alloc ?_ _)); exact BK289.out⟩, ⟨by (with_reducible repeat (first | refine blk_drewN ?_ _ | refine blk_drew ?_ | refine blk_alloc ?_ _)); exact BK290.out⟩, ⟨by repeat (first | (with_reducible first | exact HB.out | apply below_alloc | apply pw_below_drewN | apply below_drew1 | refine below_set ?_ GE289.out | refine below_set ?_ GE290.out) | exact HB.out)⟩⟩
          · rw [if_neg c7] at H
            have c7b0 : (((rd_T42 l0_0 x4_1).f1) == t292) = false := beq_eq_false_iff_ne.mpr c7
            have c7b1 : (((rd_T42 l0_0 x4_1).f1) != t292) = true := bne_iff_ne.mpr c7
            by_cases c12 : ((rd_T42 l0_0 x4_1).f0) > a0_3
            · rw [if_pos c12] at H
              have c12b0 : decide (a0_3 < ((rd_T42 l0_0 x4_1).f0)) = true := decide_eq_true c12
              clear c12
              simp only [Option.some.injEq, Prod.mk.injEq] at H
              obtain ⟨rfl, rfl, rfl, rfl⟩ := H
              have hnb13 := NB289_290.out
              have hnc13 := NB290_289.out
              have hcz14_0 : wr.cell? ⟨gb289, 0, none⟩ = some (.slice A0_0 l0_0.length c0_0) := (blk_cell BK289.out 0).trans rfl
              have hcz14_1 : wr.cell? ⟨gb289, 1, none⟩ = some (.slice A0_1 l0_1.length c0_1) := (blk_cell BK289.out 1).trans rfl
              have hcz14_2 : wr.cell? ⟨gb289, 2, none⟩ = some (.int .u64 a0_2) := (blk_cell BK289.out 2).trans rfl
              have hcz14_3 : wr.cell? ⟨gb289, 3, none⟩ = some (.int .u64 a0_3) := (blk_cell BK289.out 3).trans rfl
              have hfz14_0 := blk_frozen BK289.out 0
              have hfz14_1 := blk_frozen BK289.out 1
              have hfz14_2 := blk_frozen BK289.out 2
              have hfz14_3 := blk_frozen BK289.out 3
              try go_wp2
              have n0_ := Aside0.mk (blk_drew BK289.out)
              have n1_ := Aside0.mk (blk_drew BK290.out)
              have n2_ := Aside0.mk (below_drew1 HB.out)
              clear BK289
              clear BK290
              clear HB
              have BK289 := n0_
              have BK290 := n1_
              have HB := n2_
              clear n0_ n1_ n2_
              have p291 : 0 ≤ (x4_1 : Int) := of_decide_eq_true (by first | (with_reducible assumption) | assumption)
              have q291 : x4_1 < (l0_0.length : Int) := of_decide_eq_true (by first | (with_reducible assumption) | assumption)
              obtain ⟨ad291, e291, hx291_0, hx291_1, hx291_2⟩ := at_T42 HR0_0.out x4_1 p291 q291
              have hw291_2 := hx291_2
              have hw291_1 := hx291_1
              have hw291_0 := hx291_0
              cases e291
              replace hx291_0 := (HB.out.cell (World.block_lt_of_cell? w _ hx291_0)).trans hx291_0
              replace hx291_1 := (HB.out.cell (World.block_lt_of_cell? w _ hx291_1)).trans hx291_1
              replace hx291_2 := (HB.out.cell (World.block_lt_of_cell? w _ hx291_2)).trans hx291_2
              replace p291 := eq_true p291
              replace q291 := eq_true q291
              have p293 : 0 ≤ (x4_1 : Int) := of_decide_eq_true (by first | (with_reducible assumption) | assumption)
              have q293 : x4_1 < (l0_0.length : Int) := of_decide_eq_true (by first | (with_reducible assumption) | assumption)
              obtain ⟨ad293, e293, hx293_0, hx293_1, hx293_2⟩ := at_T42 HR0_0.out x4_1 p293 q293
              have hw293_2 := hx293_2
              have hw293_1 := hx293_1
              have hw293_0 := hx293_0
              obtain rfl : ad291 = ad293 := (by injection e293)
              replace hx293_0 := (HB.out.cell (World.block_lt_of_cell? w _ hx293_0)).trans hx293_0
              replace hx293_1 := (HB.out.cell (World.block_lt_of_cell? w _ hx293_1)).trans hx293_1
              replace hx293_2 := (HB.out.cell (World.block_lt_of_cell? w _ hx293_2)).trans hx293_2
              replace p293 := eq_true p293
              replace q293 := eq_true q293
              refine start_ (n := 20) (S := fun w' => w'.cell? ⟨gb289, 0, none⟩ = some (.slice (some ad291) l0_0.length c0_0) ∧ w'.cell? ⟨gb289, 1, none⟩ = some (.slice A0_1 l0_1.length c0_1) ∧ w'.cell? ⟨gb289, 2, none⟩ = some (.int .u64 a0_2) ∧ w'.cell? ⟨gb289, 3, none⟩ = some (.int .u64 a0_3) ∧ w'.cell? (ad291.add ((x4_1).toNat * 3)) = some (.int .u64 ((rd_T42 l0_0 x4_1).f0)) ∧ w'.cell? ⟨(ad291.add ((x4_1).toNat * 3)).block, (ad291.add ((x4_1).toNat * 3)).off + 1, none⟩ = some (.int .u64 ((rd_T42 l0_0 x4_1).f1)) ∧ w'.cell? ⟨(ad291.add ((x4_1).toNat * 3)).block, (ad291.add ((x4_1).toNat * 3)).off + 2, none⟩ = some (.string ((rd_T42 l0_0 x4_1).f2)) ∧ w'.cell? (ad291.add ((x4_1).toNat * 3)) = some (.int .u64 ((rd_T42 l0_0 x4_1).f0)) ∧ w'.cell? ⟨(ad291.add ((x4_1).toNat * 3)).block, (ad291.add ((x4_1).toNat * 3)).off + 1, none⟩ = some (.int .u64 ((rd_T42 l0_0 x4_1).f1)) ∧ w'.cell? ⟨(ad291.add ((x4_1).toNat * 3)).block, (ad291.add ((x4_1).toNat * 3)).off + 2, none⟩ = some (.string ((rd_T42 l0_0 x4_1).f2))) (ds := []) #[false, false, false, false, false, false, false, false, false, false, false, false, false, false, false, false, false, false, false, false] (by kernel_rfl) rfl rfl ⟨(blk_cell BK289.out 0).trans rfl, (blk_cell BK289.out 1).trans rfl, (blk_cell BK289.out 2).trans rfl, (blk_cell BK289.out 3).trans rfl, ((HB.out.cell (World.block_lt_of_cell? w _ hw291_0)).trans hw291_0), ((HB.out.cell (World.block_lt_of_cell? w _ hw291_1)).trans hw291_1), ((HB.out.cell (World.block_lt_of_cell? w _ hw291_2)).trans hw291_2), ((HB.out.cell (World.block_lt_of_cell? w _ hw293_0)).trans hw293_0), ((HB.out.cell (World.block_lt_of_cell? w _ hw293_1)).trans hw293_1), ((HB.out.cell (World.block_lt_of_cell? w _ hw293_2)).trans hw293_2)⟩ (fun hHeld => ?_); refine with_tabW marginaliaref23_Stale.tab4 marginaliaref23_Stale.bits4 (fun HT_ HW_ => ?_)
              generalize wr.drew = w15 at BK289 BK290 HB hx291_0 hx291_1 hx291_2 hx293_0 hx293_1 hx293_2 hHeld ⊢
              refine pure_ (i := 0) (N := some 12) (v := ?_) (a' := ?_) #[true, false, false, false, false, false, false, false, false, false, false, false, false, false, false, false, false, false, false, false] rfl rfl (any_of HT_.out (by kernel_rfl)) (fun _ _ _ h => h) (Or.inl ⟨by rfl, ?_⟩) ?_ ?_
              rotate_left
              · intro w'
                go_simp
                with_reducible rfl
              rotate_left
              · simp only [Act.put, List.setIfInBounds_toArray, List.set_cons_zero, List.set_cons_succ, i64_w, i32_w]
                rfl
              refine pure_ (i := 2) (N := some 14) (v := ?_) (a' := ?_) #[true, false, true, false, false, false, false, false, false, false, false, false, false, false, false, false, false, false, false, false] rfl rfl (any_of HT_.out (by kernel_rfl)) (fun _ _ _ h => h) (Or.inl ⟨by rfl, ?_⟩) ?_ ?_
              rotate_left
              · intro w'
                go_simp
                with_reducible rfl
              rotate_left
              · simp only [Act.put, List.setIfInBounds_toArray, List.set_cons_zero, List.set_cons_succ, i64_w, i32_w]
                rfl
              refine take_ (i := 1) (N := some 13) (v := ?_) (a' := ?_) #[true, true, true, false, false, false, false, false, false, false, false, false, false, false, false, false, false, false, false, false] rfl rfl (take_ofW HT_.out HW_.out (by kernel_rfl)) (fun _ _ _ h => h) (Or.inl ⟨by rfl, ?_⟩) hHeld ?_ ?_
              rotate_left
              · rintro w' ⟨s0, s1, s2, s3, s4, s5, s6, s7, s8, s9⟩
                go_simp
                with_reducible rfl
              rotate_left
              · simp only [Act.put, List.setIfInBounds_toArray, List.set_cons_zero, List.set_cons_succ, i64_w, i32_w]
                rfl
              refine pure_ (i := 3) (N := some 15) (v := ?_) (a' := ?_) #[true, true, true, true, false, false, false, false, false, false, false, false, false, false, false, false, false, false, false, false] rfl rfl (any_of HT_.out (by kernel_rfl)) (fun _ _ _ h => h) (Or.inl ⟨by rfl, ?_⟩) ?_ ?_
              rotate_left
              · intro w'
                go_simp
                with_reducible rfl
              rotate_left
              · simp only [Act.put, List.setIfInBounds_toArray, List.set_cons_zero, List.set_cons_succ, i64_w, i32_w]
                rfl
              refine pure_ (i := 4) (N := some 16) (v := ?_) (a' := ?_) #[true, true, true, true, true, false, false, false, false, false, false, false, false, false, false, false, false, false, false, false] rfl rfl (any_of HT_.out (by kernel_rfl)) (fun _ _ _ h => h) (Or.inl ⟨by rfl, ?_⟩) ?_ ?_
              rotate_left
              · intro w'
                go_simp
                with_reducible rfl
              rotate_left
              · simp only [Act.put, List.setIfInBounds_toArray, List.set_cons_zero, List.set_cons_succ, i64_w, i32_w]
                rfl
              refine take_ (i := 5) (N := some 17) (v := ?_) (a' := ?_) #[true, true, true, true, true, true, false, false, false, false, false, false, false, false, false, false, false, false, false, false] rfl rfl (take_ofW HT_.out HW_.out (by kernel_rfl)) (fun _ _ _ h => h) (Or.inl ⟨by rfl, ?_⟩) hHeld ?_ ?_
              rotate_left
              · rintro w' ⟨s0, s1, s2, s3, s4, s5, s6, s7, s8, s9⟩
                go_simp
                with_reducible rfl
              rotate_left
              · simp only [Act.put, List.setIfInBounds_toArray, List.set_cons_zero, List.set_cons_succ, i64_w, i32_w]
                rfl
              refine take_ (i := 6) (N := some 18) (v := ?_) (a' := ?_) #[true, true, true, true, true, true, true, false, false, false, false, false, false, false, false, false, false, false, false, false] rfl rfl (take_ofW HT_.out HW_.out (by kernel_rfl)) (fun _ _ _ h => h) (Or.inl ⟨by rfl, ?_⟩) hHeld ?_ ?_
              rotate_left
              · rintro w' ⟨s0, s1, s2, s3, s4, s5, s6, s7, s8, s9⟩
                go_simp
                with_reducible rfl
              rotate_left
              · simp only [Act.put, List.setIfInBounds_toArray, List.set_cons_zero, List.set_cons_succ, i64_w, i32_w]
                rfl
              refine one_ (i := 7) (N := some 19) #[true, true, true, true, true, true, true, true, false, false, false, false, false, false, false, false, false, false, false, false] rfl rfl (one_of HT_.out (by kernel_rfl)) (by decide) (fun K hK => ?_)
              refine goes_ Try.func34 (by kernel_rfl) rfl #[.agg #[.slice (some ad291) l0_0.length c0_0, .slice A0_1 l0_1.length c0_1, .int .u64 a0_2, .int .u64 a0_3]] (by rfl) rfl rfl (by (try simp only [List.map_toArray, List.map_cons, List.map_nil]); first | done | rfl | (simp only [List.length_drop, List.length_take]; rfl)) ?_
              with_reducible refine (marginaliaref23_Newest.calls _ _ l0_0 _ _ l0_1 a0_2 a0_3 t292 _ ?side1 ?side2 ?side3 ?side4 A6.out).mono ?_
              (case side1 => repeat (first | exact (Kd.C_below HR0_0.out HB.out) | (with_reducible refine Kd.C_alloc ?_ _) | (with_reducible refine Kd.C_drewN ?_ _) | (with_reducible refine Kd.C_drew ?_)))
              (case side2 => exact HC0_0.out)
              (case side3 => repeat (first | exact (Kd.C_below HR0_1.out HB.out) | (with_reducible refine Kd.C_alloc ?_ _) | (with_reducible refine Kd.C_drewN ?_ _) | (with_reducible refine Kd.C_drew ?_)))
              (case side4 => exact HC0_1.out)
              rintro e w16 ⟨rfl, hb⟩
              refine ⟨_, rfl, ?_⟩
              have n0_ := Aside0.mk (blk_below (g := gb289) (o := .cells #[.slice (some ad291) l0_0.length c0_0, .slice A0_1 l0_1.length c0_1, .int .u64 a0_2, .int .u64 a0_3] 58 (0, 0)) (by (with_reducible repeat (first | refine blk_drewN ?_ _ | refine blk_drew ?_ | refine blk_alloc ?_ _)); exact BK289.out) hb)
              have n1_ := Aside0.mk (blk_below (g := gb290) (o := .cells #[.int .u64 x291000_1, .int .u64 x291001_1, .string x291002_1] 42 (0, 0)) (by (with_reducible repeat (first | refine blk_drewN ?_ _ | refine blk_drew ?_ | refine blk_alloc ?_ _)); exact BK290.out) hb)
              have n2_ := Aside0.mk (below_step (by repeat (first | (with_reducible first | exact HB.out | apply below_alloc | apply pw_below_drewN | apply below_drew1 | refine below_set ?_ GE289.out | refine below_set ?_ GE290.out) | exact HB.out)) hb)
              clear BK289
              clear BK290
              clear HB
              have BK289 := n0_
              have BK290 := n1_
              have HB := n2_
              clear n0_ n1_ n2_
              (try clear hb)
              (try clear hb2)
              (try clear hk)
              (try clear hi)
              refine hK.out _ _ ⟨(blk_cell BK289.out 0).trans rfl, (blk_cell BK289.out 1).trans rfl, (blk_cell BK289.out 2).trans rfl, (blk_cell BK289.out 3).trans rfl, ((HB.out.cell (World.block_lt_of_cell? w _ hw291_0)).trans hw291_0), ((HB.out.cell (World.block_lt_of_cell? w _ hw291_1)).trans hw291_1), ((HB.out.cell (World.block_lt_of_cell? w _ hw291_2)).trans hw291_2), ((HB.out.cell (World.block_lt_of_cell? w _ hw293_0)).trans hw293_0), ((HB.out.cell (World.block_lt_of_cell? w _ hw293_1)).trans hw293_1), ((HB.out.cell (World.block_lt_of_cell? w _ hw293_2)).trans hw293_2)⟩ (fun hHeld => ?_)
              clear hK K
              refine norm_ (a' := ?_) ?_ ?_
              rotate_left
              · show Act.put _ (some 19) _ = _
                simp only [Act.put, List.setIfInBounds_toArray, List.set_cons_zero, List.set_cons_succ, i64_w, i32_w]
                rfl
              refine pure_ (i := 8) (N := some 20) (v := ?_) (a' := ?_) #[true, true, true, true, true, true, true, true, true, false, false, false, false, false, false, false, false, false, false, false] rfl rfl (any_of HT_.out (by kernel_rfl)) (fun _ _ _ h => h) (Or.inl ⟨by rfl, ?_⟩) ?_ ?_
              rotate_left
              · intro w'
                go_simp
                with_reducible rfl
              rotate_left
              · simp only [Act.put, List.setIfInBounds_toArray, List.set_cons_zero, List.set_cons_succ, i64_w, i32_w]
                rfl
              refine pure_ (i := 9) (N := some 21) (v := ?_) (a' := ?_) #[true, true, true, true, true, true, true, true, true, true, false, false, false, false, false, false, false, false, false, false] rfl rfl (any_of HT_.out (by kernel_rfl)) (fun _ _ _ h => h) (Or.inl ⟨by rfl, ?_⟩) ?_ ?_
              rotate_left
              · intro w'
                go_simp
                with_reducible rfl
              rotate_left
              · simp only [Act.put, List.setIfInBounds_toArray, List.set_cons_zero, List.set_cons_succ, i64_w, i32_w]
                rfl
              refine pure_ (i := 10) (N := some 22) (v := ?_) (a' := ?_) #[true, true, true, true, true, true, true, true, true, true, true, false, false, false, false, false, false, false, false, false] rfl rfl (any_of HT_.out (by kernel_rfl)) (fun _ _ _ h => h) (Or.inl ⟨by rfl, ?_⟩) ?_ ?_
              rotate_left
              · intro w'
                go_simp
                with_reducible rfl
              rotate_left
              · simp only [Act.put, List.setIfInBounds_toArray, List.set_cons_zero, List.set_cons_succ, i64_w, i32_w]
                rfl
              refine pure_ (i := 12) (N := some 24) (v := ?_) (a' := ?_) #[true, true, true, true, true, true, true, true, true, true, true, false, true, false, false, false, false, false, false, false] rfl rfl (any_of HT_.out (by kernel_rfl)) (fun _ _ _ h => h) (Or.inl ⟨by rfl, ?_⟩) ?_ ?_
              rotate_left
              · intro w'
                go_simp
                with_reducible rfl
              rotate_left
              · simp only [Act.put, List.setIfInBounds_toArray, List.set_cons_zero, List.set_cons_succ, i64_w, i32_w]
                rfl
              refine pure_ (i := 16) (N := some 28) (v := ?_) (a' := ?_) #[true, true, true, true, true, true, true, true, true, true, true, false, true, false, false, false, true, false, false, false] rfl rfl (any_of HT_.out (by kernel_rfl)) (fun _ _ _ h => h) (Or.inl ⟨by rfl, ?_⟩) ?_ ?_
              rotate_left
              · intro w'
                go_simp
                with_reducible rfl
              rotate_left
              · simp only [Act.put, List.setIfInBounds_toArray, List.set_cons_zero, List.set_cons_succ, i64_w, i32_w]
                rfl
              refine take_ (i := 11) (N := some 23) (v := ?_) (a' := ?_) #[true, true, true, true, true, true, true, true, true, true, true, true, true, false, false, false, true, false, false, false] rfl rfl (take_ofW HT_.out HW_.out (by kernel_rfl)) (fun _ _ _ h => h) (Or.inl ⟨by rfl, ?_⟩) hHeld ?_ ?_
              rotate_left
              · rintro w' ⟨s0, s1, s2, s3, s4, s5, s6, s7, s8, s9⟩
                go_simp
                with_reducible rfl
              rotate_left
              · simp only [Act.put, List.setIfInBounds_toArray, List.set_cons_zero, List.set_cons_succ, i64_w, i32_w]
                rfl
              refine pure_ (i := 13) (N := some 25) (v := ?_) (a' := ?_) #[true, true, true, true, true, true, true, true, true, true, true, true, true, true, false, false, true, false, false, false] rfl rfl (any_of HT_.out (by kernel_rfl)) (fun _ _ _ h => h) (Or.inl ⟨by rfl, ?_⟩) ?_ ?_
              rotate_left
              · intro w'
                go_simp
                with_reducible rfl
              rotate_left
              · simp only [Act.put, List.setIfInBounds_toArray, List.set_cons_zero, List.set_cons_succ, i64_w, i32_w]
                rfl
              refine pure_ (i := 14) (N := some 26) (v := ?_) (a' := ?_) #[true, true, true, true, true, true, true, true, true, true, true, true, true, true, true, false, true, false, false, false] rfl rfl (any_of HT_.out (by kernel_rfl)) (fun _ _ _ h => h) (Or.inl ⟨by rfl, ?_⟩) ?_ ?_
              rotate_left
              · intro w'
                go_simp
                with_reducible rfl
              rotate_left
              · simp only [Act.put, List.setIfInBounds_toArray, List.set_cons_zero, List.set_cons_succ, i64_w, i32_w]
                rfl
              refine take_ (i := 15) (N := some 27) (v := ?_) (a' := ?_) #[true, true, true, true, true, true, true, true, true, true, true, true, true, true, true, true, true, false, false, false] rfl rfl (take_ofW HT_.out HW_.out (by kernel_rfl)) (fun _ _ _ h => h) (Or.inl ⟨by rfl, ?_⟩) hHeld ?_ ?_
              rotate_left
              · rintro w' ⟨s0, s1, s2, s3, s4, s5, s6, s7, s8, s9⟩
                go_simp
                with_reducible rfl
              rotate_left
              · simp only [Act.put, List.setIfInBounds_toArray, List.set_cons_zero, List.set_cons_succ, i64_w, i32_w]
                rfl
              refine take_ (i := 17) (N := some 29) (v := ?_) (a' := ?_) #[true, true, true, true, true, true, true, true, true, true, true, true, true, true, true, true, true, true, false, false] rfl rfl (take_ofW HT_.out HW_.out (by kernel_rfl)) (fun _ _ _ h => h) (Or.inl ⟨by rfl, ?_⟩) hHeld ?_ ?_
              rotate_left
              · rintro w' ⟨s0, s1, s2, s3, s4, s5, s6, s7, s8, s9⟩
                go_simp
                with_reducible rfl
              rotate_left
              · simp only [Act.put, List.setIfInBounds_toArray, List.set_cons_zero, List.set_cons_succ, i64_w, i32_w]
                rfl
              refine pure_ (i := 18) (N := some 30) (v := ?_) (a' := ?_) #[true, true, true, true, true, true, true, true, true, true, true, true, true, true, true, true, true, true, true, false] rfl rfl (any_of HT_.out (by kernel_rfl)) (fun _ _ _ h => h) (Or.inl ⟨by rfl, ?_⟩) ?_ ?_
              rotate_left
              · intro w'
                go_simp
                with_reducible rfl
              rotate_left
              · simp only [Act.put, List.setIfInBounds_toArray, List.set_cons_zero, List.set_cons_succ, i64_w, i32_w]
                rfl
              refine pure_ (i := 19) (N := some 31) (v := ?_) (a' := ?_) #[true, true, true, true, true, true, true, true, true, true, true, true, true, true, true, true, true, true, true, true] rfl rfl (any_of HT_.out (by kernel_rfl)) (fun _ _ _ h => h) (Or.inl ⟨by rfl, ?_⟩) ?_ ?_
              rotate_left
              · intro w'
                go_simp
                with_reducible rfl
              rotate_left
              · simp only [Act.put, List.setIfInBounds_toArray, List.set_cons_zero, List.set_cons_succ, i64_w, i32_w]
                rfl
              refine done_ (done_of HT_.out (by kernel_rfl)) ?_
              have hcz17_0 : w16.cell? ⟨gb289, 0, none⟩ = some (.slice (some ad291) l0_0.length c0_0) := (blk_cell BK289.out 0).trans rfl
              have hcz17_1 : w16.cell? ⟨gb289, 1, none⟩ = some (.slice A0_1 l0_1.length c0_1) := (blk_cell BK289.out 1).trans rfl
              have hcz17_2 : w16.cell? ⟨gb289, 2, none⟩ = some (.int .u64 a0_2) := (blk_cell BK289.out 2).trans rfl
              have hcz17_3 : w16.cell? ⟨gb289, 3, none⟩ = some (.int .u64 a0_3) := (blk_cell BK289.out 3).trans rfl
              have hfz17_0 := blk_frozen BK289.out 0
              have hfz17_1 := blk_frozen BK289.out 1
              have hfz17_2 := blk_frozen BK289.out 2
              have hfz17_3 := blk_frozen BK289.out 3
              have p294 : 0 ≤ (x4_1 : Int) := of_decide_eq_true (by first | (with_reducible assumption) | assumption)
              have q294 : x4_1 < (l0_0.length : Int) := of_decide_eq_true (by first | (with_reducible assumption) | assumption)
              obtain ⟨ad294, e294, hx294_0, hx294_1, hx294_2⟩ := at_T42 HR0_0.out x4_1 p294 q294
              obtain rfl : ad291 = ad294 := (by injection e294)
              replace hx294_0 := (HB.out.cell (World.block_lt_of_cell? w _ hx294_0)).trans hx294_0
              replace hx294_1 := (HB.out.cell (World.block_lt_of_cell? w _ hx294_1)).trans hx294_1
              replace hx294_2 := (HB.out.cell (World.block_lt_of_cell? w _ hx294_2)).trans hx294_2
              replace p294 := eq_true p294
              replace q294 := eq_true q294
              have hcz18_0 : w16.cell? ⟨gb290, 0, none⟩ = some (.int .u64 x291000_1) := (blk_cell BK290.out 0).trans rfl
              have hcz18_1 : w16.cell? ⟨gb290, 1, none⟩ = some (.int .u64 x291001_1) := (blk_cell BK290.out 1).trans rfl
              have hcz18_2 : w16.cell? ⟨gb290, 2, none⟩ = some (.string x291002_1) := (blk_cell BK290.out 2).trans rfl
              have hfz18_0 := blk_frozen BK290.out 0
              have hfz18_1 := blk_frozen BK290.out 1
              have hfz18_2 := blk_frozen BK290.out 2
              try go_wp2
              refine bodyPost_ret (results_ct rfl _ _ gb290 42 #[.int .u64 ((rd_T42 l0_0 x4_1).f0), .int .u64 ((rd_T42 l0_0 x4_1).f1), .string ((rd_T42 l0_0 x4_1).f2)] (0, 0) _ rfl (by (with_reducible repeat (first | refine blk_drewN ?_ _ | refine blk_drew ?_ | refine blk_alloc ?_ _)); refine blk_put (cs := #[.int .u64 ((rd_T42 l0_0 x4_1).f0), .int .u64 ((rd_T42 l0_0 x4_1).f1), .string x291002_1]) ?_ 2 _ rfl; (with_reducible repeat (first | refine blk_drewN ?_ _ | refine blk_drew ?_ | refine blk_alloc ?_ _)); refine blk_put (cs := #[.int .u64 ((rd_T42 l0_0 x4_1).f0), .int .u64 x291001_1, .string x291002_1]) ?_ 1 _ rfl; (with_reducible repeat (first | refine blk_drewN ?_ _ | refine blk_drew ?_ | refine blk_alloc ?_ _)); refine blk_put (cs := #[.int .u64 x291000_1, .int .u64 x291001_1, .string x291002_1]) ?_ 0 _ rfl; (with_reducible repeat (first | refine blk_drewN ?_ _ | refine blk_drew ?_ | refine blk_alloc ?_ _)); exact BK290.out) Try.underlying42 rfl (by kernel_rfl)) rfl ?_
              exact ⟨by first | rfl | (simp [errW_none, errW_some] <;> rfl) | (simp [*, errW_none, errW_some] <;> rfl), by repeat (first | (with_reducible first | exact HB.out | apply below_alloc | apply pw_below_drewN | apply below_drew1 | refine below_set ?_ GE289.out | refine below_set ?_ GE290.out) | exact HB.out)⟩
            · rw [if_neg c12] at H
              have c12b0 : decide (a0_3 < ((rd_T42 l0_0 x4_1).f0)) = false := decide_eq_false c12
              clear c12
              have H' := Aside0.mk H
              clear H
              have hnb19 := NB289_290.out
              have hnc19 := NB290_289.out
              have hcz20_0 : wr.cell? ⟨gb289, 0, none⟩ = some (.slice A0_0 l0_0.length c0_0) := (blk_cell BK289.out 0).trans rfl
              have hcz20_1 : wr.cell? ⟨gb289, 1, none⟩ = some (.slice A0_1 l0_1.length c0_1) := (blk_cell BK289.out 1).trans rfl
              have hcz20_2 : wr.cell? ⟨gb289, 2, none⟩ = some (.int .u64 a0_2) := (blk_cell BK289.out 2).trans rfl
              have hcz20_3 : wr.cell? ⟨gb289, 3, none⟩ = some (.int .u64 a0_3) := (blk_cell BK289.out 3).trans rfl
              have hfz20_0 := blk_frozen BK289.out 0
              have hfz20_1 := blk_frozen BK289.out 1
              have hfz20_2 := blk_frozen BK289.out 2
              have hfz20_3 := blk_frozen BK289.out 3
              try go_wp2
              have n0_ := Aside0.mk (blk_drew BK289.out)
              have n1_ := Aside0.mk (blk_drew BK290.out)
              have n2_ := Aside0.mk (below_drew1 HB.out)
              clear BK289
              clear BK290
              clear HB
              have BK289 := n0_
              have BK290 := n1_
              have HB := n2_
              clear n0_ n1_ n2_
              have p291 : 0 ≤ (x4_1 : Int) := of_decide_eq_true (by first | (with_reducible assumption) | assumption)
              have q291 : x4_1 < (l0_0.length : Int) := of_decide_eq_true (by first | (with_reducible assumption) | assumption)
              obtain ⟨ad291, e291, hx291_0, hx291_1, hx291_2⟩ := at_T42 HR0_0.out x4_1 p291 q291
              have hw291_2 := hx291_2
              have hw291_1 := hx291_1
              have hw291_0 := hx291_0
              cases e291
              replace hx291_0 := (HB.out.cell (World.block_lt_of_cell? w _ hx291_0)).trans hx291_0
              replace hx291_1 := (HB.out.cell (World.block_lt_of_cell? w _ hx291_1)).trans hx291_1
              replace hx291_2 := (HB.out.cell (World.block_lt_of_cell? w _ hx291_2)).trans hx291_2
              replace p291 := eq_true p291
              replace q291 := eq_true q291
              have p293 : 0 ≤ (x4_1 : Int) := of_decide_eq_true (by first | (with_reducible assumption) | assumption)
              have q293 : x4_1 < (l0_0.length : Int) := of_decide_eq_true (by first | (with_reducible assumption) | assumption)
              obtain ⟨ad293, e293, hx293_0, hx293_1, hx293_2⟩ := at_T42 HR0_0.out x4_1 p293 q293
              have hw293_2 := hx293_2
              have hw293_1 := hx293_1
              have hw293_0 := hx293_0
              obtain rfl : ad291 = ad293 := (by injection e293)
              replace hx293_0 := (HB.out.cell (World.block_lt_of_cell? w _ hx293_0)).trans hx293_0
              replace hx293_1 := (HB.out.cell (World.block_lt_of_cell? w _ hx293_1)).trans hx293_1
              replace hx293_2 := (HB.out.cell (World.block_lt_of_cell? w _ hx293_2)).trans hx293_2
              replace p293 := eq_true p293
              replace q293 := eq_true q293
              refine start_ (n := 20) (S := fun w' => w'.cell? ⟨gb289, 0, none⟩ = some (.slice (some ad291) l0_0.length c0_0) ∧ w'.cell? ⟨gb289, 1, none⟩ = some (.slice A0_1 l0_1.length c0_1) ∧ w'.cell? ⟨gb289, 2, none⟩ = some (.int .u64 a0_2) ∧ w'.cell? ⟨gb289, 3, none⟩ = some (.int .u64 a0_3) ∧ w'.cell? (ad291.add ((x4_1).toNat * 3)) = some (.int .u64 ((rd_T42 l0_0 x4_1).f0)) ∧ w'.cell? ⟨(ad291.add ((x4_1).toNat * 3)).block, (ad291.add ((x4_1).toNat * 3)).off + 1, none⟩ = some (.int .u64 ((rd_T42 l0_0 x4_1).f1)) ∧ w'.cell? ⟨(ad291.add ((x4_1).toNat * 3)).block, (ad291.add ((x4_1).toNat * 3)).off + 2, none⟩ = some (.string ((rd_T42 l0_0 x4_1).f2)) ∧ w'.cell? (ad291.add ((x4_1).toNat * 3)) = some (.int .u64 ((rd_T42 l0_0 x4_1).f0)) ∧ w'.cell? ⟨(ad291.add ((x4_1).toNat * 3)).block, (ad291.add ((x4_1).toNat * 3)).off + 1, none⟩ = some (.int .u64 ((rd_T42 l0_0 x4_1).f1)) ∧ w'.cell? ⟨(ad291.add ((x4_1).toNat * 3)).block, (ad291.add ((x4_1).toNat * 3)).off + 2, none⟩ = some (.string ((rd_T42 l0_0 x4_1).f2))) (ds := []) #[false, false, false, false, false, false, false, false, false, false, false, false, false, false, false, false, false, false, false, false] (by kernel_rfl) rfl rfl ⟨(blk_cell BK289.out 0).trans rfl, (blk_cell BK289.out 1).trans rfl, (blk_cell BK289.out 2).trans rfl, (blk_cell BK289.out 3).trans rfl, ((HB.out.cell (World.block_lt_of_cell? w _ hw291_0)).trans hw291_0), ((HB.out.cell (World.block_lt_of_cell? w _ hw291_1)).trans hw291_1), ((HB.out.cell (World.block_lt_of_cell? w _ hw291_2)).trans hw291_2), ((HB.out.cell (World.block_lt_of_cell? w _ hw293_0)).trans hw293_0), ((HB.out.cell (World.block_lt_of_cell? w _ hw293_1)).trans hw293_1), ((HB.out.cell (World.block_lt_of_cell? w _ hw293_2)).trans hw293_2)⟩ (fun hHeld => ?_); refine with_tabW marginaliaref23_Stale.tab4 marginaliaref23_Stale.bits4 (fun HT_ HW_ => ?_)
              generalize wr.drew = w21 at BK289 BK290 HB hx291_0 hx291_1 hx291_2 hx293_0 hx293_1 hx293_2 hHeld ⊢
              refine pure_ (i := 0) (N := some 12) (v := ?_) (a' := ?_) #[true, false, false, false, false, false, false, false, false, false, false, false, false, false, false, false, false, false, false, false] rfl rfl (any_of HT_.out (by kernel_rfl)) (fun _ _ _ h => h) (Or.inl ⟨by rfl, ?_⟩) ?_ ?_
              rotate_left
              · intro w'
                go_simp
                with_reducible rfl
              rotate_left
              · simp only [Act.put, List.setIfInBounds_toArray, List.set_cons_zero, List.set_cons_succ, i64_w, i32_w]
                rfl
              refine pure_ (i := 2) (N := some 14) (v := ?_) (a' := ?_) #[true, false, true, false, false, false, false, false, false, false, false, false, false, false, false, false, false, false, false, false] rfl rfl (any_of HT_.out (by kernel_rfl)) (fun _ _ _ h => h) (Or.inl ⟨by rfl, ?_⟩) ?_ ?_
              rotate_left
              · intro w'
                go_simp
                with_reducible rfl
              rotate_left
              · simp only [Act.put, List.setIfInBounds_toArray, List.set_cons_zero, List.set_cons_succ, i64_w, i32_w]
                rfl
              refine take_ (i := 1) (N := some 13) (v := ?_) (a' := ?_) #[true, true, true, false, false, false, false, false, false, false, false, false, false, false, false, false, false, false, false, false] rfl rfl (take_ofW HT_.out HW_.out (by kernel_rfl)) (fun _ _ _ h => h) (Or.inl ⟨by rfl, ?_⟩) hHeld ?_ ?_
              rotate_left
              · rintro w' ⟨s0, s1, s2, s3, s4, s5, s6, s7, s8, s9⟩
                go_simp
                with_reducible rfl
              rotate_left
              · simp only [Act.put, List.setIfInBounds_toArray, List.set_cons_zero, List.set_cons_succ, i64_w, i32_w]
                rfl
              refine pure_ (i := 3) (N := some 15) (v := ?_) (a' := ?_) #[true, true, true, true, false, false, false, false, false, false, false, false, false, false, false, false, false, false, false, false] rfl rfl (any_of HT_.out (by kernel_rfl)) (fun _ _ _ h => h) (Or.inl ⟨by rfl, ?_⟩) ?_ ?_
              rotate_left
              · intro w'
                go_simp
                with_reducible rfl
              rotate_left
              · simp only [Act.put, List.setIfInBounds_toArray, List.set_cons_zero, List.set_cons_succ, i64_w, i32_w]
                rfl
              refine pure_ (i := 4) (N := some 16) (v := ?_) (a' := ?_) #[true, true, true, true, true, false, false, false, false, false, false, false, false, false, false, false, false, false, false, false] rfl rfl (any_of HT_.out (by kernel_rfl)) (fun _ _ _ h => h) (Or.inl ⟨by rfl, ?_⟩) ?_ ?_
              rotate_left
              · intro w'
                go_simp
                with_reducible rfl
              rotate_left
              · simp only [Act.put, List.setIfInBounds_toArray, List.set_cons_zero, List.set_cons_succ, i64_w, i32_w]
                rfl
              refine take_ (i := 5) (N := some 17) (v := ?_) (a' := ?_) #[true, true, true, true, true, true, false, false, false, false, false, false, false, false, false, false, false, false, false, false] rfl rfl (take_ofW HT_.out HW_.out (by kernel_rfl)) (fun _ _ _ h => h) (Or.inl ⟨by rfl, ?_⟩) hHeld ?_ ?_
              rotate_left
              · rintro w' ⟨s0, s1, s2, s3, s4, s5, s6, s7, s8, s9⟩
                go_simp
                with_reducible rfl
              rotate_left
              · simp only [Act.put, List.setIfInBounds_toArray, List.set_cons_zero, List.set_cons_succ, i64_w, i32_w]
                rfl
              refine take_ (i := 6) (N := some 18) (v := ?_) (a' := ?_) #[true, true, true, true, true, true, true, false, false, false, false, false, false, false, false, false, false, false, false, false] rfl rfl (take_ofW HT_.out HW_.out (by kernel_rfl)) (fun _ _ _ h => h) (Or.inl ⟨by rfl, ?_⟩) hHeld ?_ ?_
              rotate_left
              · rintro w' ⟨s0, s1, s2, s3, s4, s5, s6, s7, s8, s9⟩
                go_simp
                with_reducible rfl
              rotate_left
              · simp only [Act.put, List.setIfInBounds_toArray, List.set_cons_zero, List.set_cons_succ, i64_w, i32_w]
                rfl
              refine one_ (i := 7) (N := some 19) #[true, true, true, true, true, true, true, true, false, false, false, false, false, false, false, false, false, false, false, false] rfl rfl (one_of HT_.out (by kernel_rfl)) (by decide) (fun K hK => ?_)
              refine goes_ Try.func34 (by kernel_rfl) rfl #[.agg #[.slice (some ad291) l0_0.length c0_0, .slice A0_1 l0_1.length c0_1, .int .u64 a0_2, .int .u64 a0_3]] (by rfl) rfl rfl (by (try simp only [List.map_toArray, List.map_cons, List.map_nil]); first | done | rfl | (simp only [List.length_drop, List.length_take]; rfl)) ?_
              with_reducible refine (marginaliaref23_Newest.calls _ _ l0_0 _ _ l0_1 a0_2 a0_3 t292 _ ?side1 ?side2 ?side3 ?side4 A6.out).mono ?_
              (case side1 => repeat (first | exact (Kd.C_below HR0_0.out HB.out) | (with_reducible refine Kd.C_alloc ?_ _) | (with_reducible refine Kd.C_drewN ?_ _) | (with_reducible refine Kd.C_drew ?_)))
              (case side2 => exact HC0_0.out)
              (case side3 => repeat (first | exact (Kd.C_below HR0_1.out HB.out) | (with_reducible refine Kd.C_alloc ?_ _) | (with_reducible refine Kd.C_drewN ?_ _) | (with_reducible refine Kd.C_drew ?_)))
              (case side4 => exact HC0_1.out)
              rintro e w22 ⟨rfl, hb⟩
              refine ⟨_, rfl, ?_⟩
              have n0_ := Aside0.mk (blk_below (g := gb289) (o := .cells #[.slice (some ad291) l0_0.length c0_0, .slice A0_1 l0_1.length c0_1, .int .u64 a0_2, .int .u64 a0_3] 58 (0, 0)) (by (with_reducible repeat (first | refine blk_drewN ?_ _ | refine blk_drew ?_ | refine blk_alloc ?_ _)); exact BK289.out) hb)
              have n1_ := Aside0.mk (blk_below (g := gb290) (o := .cells #[.int .u64 x291000_1, .int .u64 x291001_1, .string x291002_1] 42 (0, 0)) (by (with_reducible repeat (first | refine blk_drewN ?_ _ | refine blk_drew ?_ | refine blk_alloc ?_ _)); exact BK290.out) hb)
              have n2_ := Aside0.mk (below_step (by repeat (first | (with_reducible first | exact HB.out | apply below_alloc | apply pw_below_drewN | apply below_drew1 | refine below_set ?_ GE289.out | refine below_set ?_ GE290.out) | exact HB.out)) hb)
              clear BK289
              clear BK290
              clear HB
              have BK289 := n0_
              have BK290 := n1_
              have HB := n2_
              clear n0_ n1_ n2_
              (try clear hb)
              (try clear hb2)
              (try clear hk)
              (try clear hi)
              refine hK.out _ _ ⟨(blk_cell BK289.out 0).trans rfl, (blk_cell BK289.out 1).trans rfl, (blk_cell BK289.out 2).trans rfl, (blk_cell BK289.out 3).trans rfl, ((HB.out.cell (World.block_lt_of_cell? w _ hw291_0)).trans hw291_0), ((HB.out.cell (World.block_lt_of_cell? w _ hw291_1)).trans hw291_1), ((HB.out.cell (World.block_lt_of_cell? w _ hw291_2)).trans hw291_2), ((HB.out.cell (World.block_lt_of_cell? w _ hw293_0)).trans hw293_0), ((HB.out.cell (World.block_lt_of_cell? w _ hw293_1)).trans hw293_1), ((HB.out.cell (World.block_lt_of_cell? w _ hw293_2)).trans hw293_2)⟩ (fun hHeld => ?_)
              clear hK K
              refine norm_ (a' := ?_) ?_ ?_
              rotate_left
              · show Act.put _ (some 19) _ = _
                simp only [Act.put, List.setIfInBounds_toArray, List.set_cons_zero, List.set_cons_succ, i64_w, i32_w]
                rfl
              refine pure_ (i := 8) (N := some 20) (v := ?_) (a' := ?_) #[true, true, true, true, true, true, true, true, true, false, false, false, false, false, false, false, false, false, false, false] rfl rfl (any_of HT_.out (by kernel_rfl)) (fun _ _ _ h => h) (Or.inl ⟨by rfl, ?_⟩) ?_ ?_
              rotate_left
              · intro w'
                go_simp
                with_reducible rfl
              rotate_left
              · simp only [Act.put, List.setIfInBounds_toArray, List.set_cons_zero, List.set_cons_succ, i64_w, i32_w]
                rfl
              refine pure_ (i := 9) (N := some 21) (v := ?_) (a' := ?_) #[true, true, true, true, true, true, true, true, true, true, false, false, false, false, false, false, false, false, false, false] rfl rfl (any_of HT_.out (by kernel_rfl)) (fun _ _ _ h => h) (Or.inl ⟨by rfl, ?_⟩) ?_ ?_
              rotate_left
              · intro w'
                go_simp
                with_reducible rfl
              rotate_left
              · simp only [Act.put, List.setIfInBounds_toArray, List.set_cons_zero, List.set_cons_succ, i64_w, i32_w]
                rfl
              refine pure_ (i := 10) (N := some 22) (v := ?_) (a' := ?_) #[true, true, true, true, true, true, true, true, true, true, true, false, false, false, false, false, false, false, false, false] rfl rfl (any_of HT_.out (by kernel_rfl)) (fun _ _ _ h => h) (Or.inl ⟨by rfl, ?_⟩) ?_ ?_
              rotate_left
              · intro w'
                go_simp
                with_reducible rfl
              rotate_left
              · simp only [Act.put, List.setIfInBounds_toArray, List.set_cons_zero, List.set_cons_succ, i64_w, i32_w]
                rfl
              refine pure_ (i := 12) (N := some 24) (v := ?_) (a' := ?_) #[true, true, true, true, true, true, true, true, true, true, true, false, true, false, false, false, false, false, false, false] rfl rfl (any_of HT_.out (by kernel_rfl)) (fun _ _ _ h => h) (Or.inl ⟨by rfl, ?_⟩) ?_ ?_
              rotate_left
              · intro w'
                go_simp
                with_reducible rfl
              rotate_left
              · simp only [Act.put, List.setIfInBounds_toArray, List.set_cons_zero, List.set_cons_succ, i64_w, i32_w]
                rfl
              refine pure_ (i := 16) (N := some 28) (v := ?_) (a' := ?_) #[true, true, true, true, true, true, true, true, true, true, true, false, true, false, false, false, true, false, false, false] rfl rfl (any_of HT_.out (by kernel_rfl)) (fun _ _ _ h => h) (Or.inl ⟨by rfl, ?_⟩) ?_ ?_
              rotate_left
              · intro w'
                go_simp
                with_reducible rfl
              rotate_left
              · simp only [Act.put, List.setIfInBounds_toArray, List.set_cons_zero, List.set_cons_succ, i64_w, i32_w]
                rfl
              refine take_ (i := 11) (N := some 23) (v := ?_) (a' := ?_) #[true, true, true, true, true, true, true, true, true, true, true, true, true, false, false, false, true, false, false, false] rfl rfl (take_ofW HT_.out HW_.out (by kernel_rfl)) (fun _ _ _ h => h) (Or.inl ⟨by rfl, ?_⟩) hHeld ?_ ?_
              rotate_left
              · rintro w' ⟨s0, s1, s2, s3, s4, s5, s6, s7, s8, s9⟩
                go_simp
                with_reducible rfl
              rotate_left
              · simp only [Act.put, List.setIfInBounds_toArray, List.set_cons_zero, List.set_cons_succ, i64_w, i32_w]
                rfl
              refine pure_ (i := 13) (N := some 25) (v := ?_) (a' := ?_) #[true, true, true, true, true, true, true, true, true, true, true, true, true, true, false, false, true, false, false, false] rfl rfl (any_of HT_.out (by kernel_rfl)) (fun _ _ _ h => h) (Or.inl ⟨by rfl, ?_⟩) ?_ ?_
              rotate_left
              · intro w'
                go_simp
                with_reducible rfl
              rotate_left
              · simp only [Act.put, List.setIfInBounds_toArray, List.set_cons_zero, List.set_cons_succ, i64_w, i32_w]
                rfl
              refine pure_ (i := 14) (N := some 26) (v := ?_) (a' := ?_) #[true, true, true, true, true, true, true, true, true, true, true, true, true, true, true, false, true, false, false, false] rfl rfl (any_of HT_.out (by kernel_rfl)) (fun _ _ _ h => h) (Or.inl ⟨by rfl, ?_⟩) ?_ ?_
              rotate_left
              · intro w'
                go_simp
                with_reducible rfl
              rotate_left
              · simp only [Act.put, List.setIfInBounds_toArray, List.set_cons_zero, List.set_cons_succ, i64_w, i32_w]
                rfl
              refine take_ (i := 15) (N := some 27) (v := ?_) (a' := ?_) #[true, true, true, true, true, true, true, true, true, true, true, true, true, true, true, true, true, false, false, false] rfl rfl (take_ofW HT_.out HW_.out (by kernel_rfl)) (fun _ _ _ h => h) (Or.inl ⟨by rfl, ?_⟩) hHeld ?_ ?_
              rotate_left
              · rintro w' ⟨s0, s1, s2, s3, s4, s5, s6, s7, s8, s9⟩
                go_simp
                with_reducible rfl
              rotate_left
              · simp only [Act.put, List.setIfInBounds_toArray, List.set_cons_zero, List.set_cons_succ, i64_w, i32_w]
                rfl
              refine take_ (i := 17) (N := some 29) (v := ?_) (a' := ?_) #[true, true, true, true, true, true, true, true, true, true, true, true, true, true, true, true, true, true, false, false] rfl rfl (take_ofW HT_.out HW_.out (by kernel_rfl)) (fun _ _ _ h => h) (Or.inl ⟨by rfl, ?_⟩) hHeld ?_ ?_
              rotate_left
              · rintro w' ⟨s0, s1, s2, s3, s4, s5, s6, s7, s8, s9⟩
                go_simp
                with_reducible rfl
              rotate_left
              · simp only [Act.put, List.setIfInBounds_toArray, List.set_cons_zero, List.set_cons_succ, i64_w, i32_w]
                rfl
              refine pure_ (i := 18) (N := some 30) (v := ?_) (a' := ?_) #[true, true, true, true, true, true, true, true, true, true, true, true, true, true, true, true, true, true, true, false] rfl rfl (any_of HT_.out (by kernel_rfl)) (fun _ _ _ h => h) (Or.inl ⟨by rfl, ?_⟩) ?_ ?_
              rotate_left
              · intro w'
                go_simp
                with_reducible rfl
              rotate_left
              · simp only [Act.put, List.setIfInBounds_toArray, List.set_cons_zero, List.set_cons_succ, i64_w, i32_w]
                rfl
              refine pure_ (i := 19) (N := some 31) (v := ?_) (a' := ?_) #[true, true, true, true, true, true, true, true, true, true, true, true, true, true, true, true, true, true, true, true] rfl rfl (any_of HT_.out (by kernel_rfl)) (fun _ _ _ h => h) (Or.inl ⟨by rfl, ?_⟩) ?_ ?_
              rotate_left
              · intro w'
                go_simp
                with_reducible rfl
              rotate_left
              · simp only [Act.put, List.setIfInBounds_toArray, List.set_cons_zero, List.set_cons_succ, i64_w, i32_w]
                rfl
              refine done_ (done_of HT_.out (by kernel_rfl)) ?_
              try go_wp2
              go_roundg k1
              case measure => have := HK1.out; omega
              case rel => exact ⟨(wrap64 (x4_1 + 1)), (x291000_1), (x291001_1), (x291002_1), (by first | rfl | (simp; done) | (simp [*]; done)), H', ⟨by have := HK1.out; omega⟩, ⟨by (with_reducible repeat (first | refine blk_drewN ?_ _ | refine blk_drew ?_ | refine blk_alloc ?_ _)); exact BK289.out⟩, ⟨by (with_reducible repeat (first | refine blk_drewN ?_ _ | refine blk_drew ?_ | refine blk_alloc ?_ _)); exact BK290.out⟩, ⟨by repeat (first | (with_reducible first | exact HB.out | apply below_alloc | apply pw_below_drewN | apply below_drew1 | refine below_set ?_ GE289.out | refine below_set ?_ GE290.out) | exact HB.out)⟩⟩
        · rw [if_neg c5] at H
          exact absurd H (by simp)
      · rw [if_neg c4] at H
        have c4b0 : decide (x4_1 < (l0_0.length : Int)) = false := decide_eq_false c4
        clear c4
        simp only [Option.some.injEq, Prod.mk.injEq] at H
        obtain ⟨rfl, rfl, rfl, rfl⟩ := H
        have hnb23 := NB289_290.out
        have hnc23 := NB290_289.out
        have hcz24_0 : wr.cell? ⟨gb289, 0, none⟩ = some (.slice A0_0 l0_0.length c0_0) := (blk_cell BK289.out 0).trans rfl
        have hcz24_1 : wr.cell? ⟨gb289, 1, none⟩ = some (.slice A0_1 l0_1.length c0_1) := (blk_cell BK289.out 1).trans rfl
        have hcz24_2 : wr.cell? ⟨gb289, 2, none⟩ = some (.int .u64 a0_2) := (blk_cell BK289.out 2).trans rfl
        have hcz24_3 : wr.cell? ⟨gb289, 3, none⟩ = some (.int .u64 a0_3) := (blk_cell BK289.out 3).trans rfl
        have hfz24_0 := blk_frozen BK289.out 0
        have hfz24_1 := blk_frozen BK289.out 1
        have hfz24_2 := blk_frozen BK289.out 2
        have hfz24_3 := blk_frozen BK289.out 3
        have hcz25_0 : wr.cell? ⟨gb290, 0, none⟩ = some (.int .u64 x291000_1) := (blk_cell BK290.out 0).trans rfl
        have hcz25_1 : wr.cell? ⟨gb290, 1, none⟩ = some (.int .u64 x291001_1) := (blk_cell BK290.out 1).trans rfl
        have hcz25_2 : wr.cell? ⟨gb290, 2, none⟩ = some (.string x291002_1) := (blk_cell BK290.out 2).trans rfl
        have hfz25_0 := blk_frozen BK290.out 0
        have hfz25_1 := blk_frozen BK290.out 1
        have hfz25_2 := blk_frozen BK290.out 2
        go_wp2
        refine bodyPost_ret (results_ct rfl _ _ gb290 42 #[.int .u64 0, .int .u64 0, .string (⟨#[]⟩ : ByteArray)] (0, 0) _ rfl (by (with_reducible repeat (first | refine blk_drewN ?_ _ | refine blk_drew ?_ | refine blk_alloc ?_ _)); refine blk_put (cs := #[.int .u64 0, .int .u64 0, .string x291002_1]) ?_ 2 _ rfl; (with_reducible repeat (first | refine blk_drewN ?_ _ | refine blk_drew ?_ | refine blk_alloc ?_ _)); refine blk_put (cs := #[.int .u64 0, .int .u64 x291001_1, .string x291002_1]) ?_ 1 _ rfl; (with_reducible repeat (first | refine blk_drewN ?_ _ | refine blk_drew ?_ | refine blk_alloc ?_ _)); refine blk_put (cs := #[.int .u64 x291000_1, .int .u64 x291001_1, .string x291002_1]) ?_ 0 _ rfl; (with_reducible repeat (first | refine blk_drewN ?_ _ | refine blk_drew ?_ | refine blk_alloc ?_ _)); exact BK290.out) Try.underlying42 rfl (by kernel_rfl)) rfl ?_
        exact ⟨by first | rfl | (simp [errW_none, errW_some] <;> rfl) | (simp [*, errW_none, errW_some] <;> rfl), by repeat (first | (with_reducible first | exact HB.out | apply below_alloc | apply pw_below_drewN | apply below_drew1 | refine below_set ?_ GE289.out | refine below_set ?_ GE290.out) | exact HB.out)⟩

def marginaliaref23_Policy.f (l0_0 : List (S42)) (l0_1 : List ByteArray) (a0_2 : Int) (a0_3 : Int) (a1 : Int) : Option (ByteArray × Bool) := if a1 < 1 then (some ((⟨#[]⟩ : ByteArray), false)) else ((marginaliaref23_Newest.f l0_0 l0_1 a0_2 a0_3).bind fun t296 => (if a1 > t296 then (some ((⟨#[]⟩ : ByteArray), false)) else (if 0 ≤ (IntKind.u64.wrap (a1 - 1)) then (if (IntKind.u64.wrap (a1 - 1)) < (l0_1.length : Int) then (some (rdOf ByteArray.empty l0_1 (IntKind.u64.wrap (a1 - 1)), true)) else (none)) else (none))))
set_option maxHeartbeats 8000000 in
set_option maxRecDepth 100000 in
theorem marginaliaref23_Policy.calls (A0_0 : Option Addr) (c0_0 : Nat) (l0_0 : List (S42)) (A0_1 : Option Addr) (c0_1 : Nat) (l0_1 : List ByteArray) (a0_2 : Int) (a0_3 : Int) (a1 : Int) (r1 : ByteArray) (r2 : Bool) (w : World) (hr0_0 : Kd.C k42 w A0_0 l0_0.length l0_0) (hc0_0 : l0_0.length ≤ c0_0) (hr0_1 : Kd.C Kd.string w A0_1 l0_1.length l0_1) (hc0_1 : l0_1.length ≤ c0_1) (h : marginaliaref23_Policy.f l0_0 l0_1 a0_2 a0_3 a1 = some (r1, r2)) :
    Calls Try.prog 38 #[.agg #[.slice A0_0 l0_0.length c0_0, .slice A0_1 l0_1.length c0_1, .int .u64 a0_2, .int .u64 a0_3], .int .u64 a1] w fun e w' => e = .returned (.tuple #[.string r1, .bool r2]) ∧ Below w.heap.size w w' := by
  have hu58 := Try.underlying58
  have HR0_0 := Aside0.mk hr0_0
  have HC0_0 := Aside0.mk hc0_0
  clear hr0_0 hc0_0
  have HR0_1 := Aside0.mk hr0_1
  have HC0_1 := Aside0.mk hc0_1
  clear hr0_1 hc0_1
  have HB := Aside0.mk (Below.refl w.heap.size w)
  have H : (if a1 < 1 then (some ((⟨#[]⟩ : ByteArray), false)) else ((marginaliaref23_Newest.f l0_0 l0_1 a0_2 a0_3).bind fun t296 => (if a1 > t296 then (some ((⟨#[]⟩ : ByteArray), false)) else (if 0 ≤ (IntKind.u64.wrap (a1 - 1)) then (if (IntKind.u64.wrap (a1 - 1)) < (l0_1.length : Int) then (some (rdOf ByteArray.empty l0_1 (IntKind.u64.wrap (a1 - 1)), true)) else (none)) else (none))))) = some (r1, r2) := h
  clear h
  by_cases c3 : a1 < 1
  · rw [if_pos c3] at H
    have c3b0 : decide (a1 < 1) = true := decide_eq_true c3
    clear c3
    simp only [Option.some.injEq, Prod.mk.injEq] at H
    obtain ⟨rfl, rfl⟩ := H
    go_enter Try.func38, Try.ntmps38
    go_wp2_with (first | ((with_reducible refine gate_dst (N := 2) rfl ?_); refine box_event ?hg (N := 2) ?hd (cs := #[.slice A0_0 l0_0.length c0_0, .slice A0_1 l0_1.length c0_1, .int .u64 a0_2, .int .u64 a0_3]) (t := 58) ?hr ?_; (case hd => rfl); (case hg => rfl); (case hr => first | (go_simp; done) | (go_simp; rfl)); intro gb295 hg w4 hbox hb; have n0_ := Aside0.mk (below_step (by repeat (first | (with_reducible first | exact HB.out | apply below_alloc | apply pw_below_drewN | apply below_drew1) | exact HB.out)) hb); have n1_ := Aside0.mk (hbox); have n2_ := Aside0.mk ((by rw [hg]; exact (below_size (by repeat (first | (with_reducible first | exact HB.out | apply below_alloc | apply pw_below_drewN | apply below_drew1) | exact HB.out))) : w.heap.size ≤ gb295)); have n3_ := Aside0.mk ((by rw [hg]; exact (below_size (by repeat (first | (with_reducible first | exact HB.out | apply below_alloc | apply pw_below_drewN | apply below_drew1) | exact HB.out))) : w.heap.size ≤ gb295)); clear HB; have HB := n0_; have BK295 := n1_; have GW295 := n2_; have GE295 := n3_; clear n0_ n1_ n2_ n3_; clear hb hbox hg))
    go_ret2
    exact ⟨by first | rfl | (simp [errW_none, errW_some] <;> rfl) | (simp [*, errW_none, errW_some] <;> rfl), by repeat (first | (with_reducible first | exact HB.out | apply below_alloc | apply pw_below_drewN | apply below_drew1 | refine below_set ?_ GE295.out) | exact HB.out)⟩
  · rw [if_neg c3] at H
    have c3b0 : decide (a1 < 1) = false := decide_eq_false c3
    clear c3
    replace H := Option.bind_eq_some_iff.mp H
    obtain ⟨t296, A50, H⟩ := H
    replace H : (if a1 > t296 then (some ((⟨#[]⟩ : ByteArray), false)) else (if 0 ≤ (IntKind.u64.wrap (a1 - 1)) then (if (IntKind.u64.wrap (a1 - 1)) < (l0_1.length : Int) then (some (rdOf ByteArray.empty l0_1 (IntKind.u64.wrap (a1 - 1)), true)) else (none)) else (none))) = some (r1, r2) := H
    have A5 := Aside0.mk A50
    clear A50
    by_cases c6 : a1 > t296
    · rw [if_pos c6] at H
      have c6b0 : decide (t296 < a1) = true := decide_eq_true c6
      clear c6
      simp only [Option.some.injEq, Prod.mk.injEq] at H
      obtain ⟨rfl, rfl⟩ := H
      go_enter Try.func38, Try.ntmps38
      go_wp2_with (first | ((with_reducible refine gate_dst (N := 2) rfl ?_); refine box_event ?hg (N := 2) ?hd (cs := #[.slice A0_0 l0_0.length c0_0, .slice A0_1 l0_1.length c0_1, .int .u64 a0_2, .int .u64 a0_3]) (t := 58) ?hr ?_; (case hd => rfl); (case hg => rfl); (case hr => first | (go_simp; done) | (go_simp; rfl)); intro gb295 hg w7 hbox hb; have n0_ := Aside0.mk (below_step (by repeat (first | (with_reducible first | exact HB.out | apply below_alloc | apply pw_below_drewN | apply below_drew1) | exact HB.out)) hb); have n1_ := Aside0.mk (hbox); have n2_ := Aside0.mk ((by rw [hg]; exact (below_size (by repeat (first | (with_reducible first | exact HB.out | apply below_alloc | apply pw_below_drewN | apply below_drew1) | exact HB.out))) : w.heap.size ≤ gb295)); have n3_ := Aside0.mk ((by rw [hg]; exact (below_size (by repeat (first | (with_reducible first | exact HB.out | apply below_alloc | apply pw_below_drewN | apply below_drew1) | exact HB.out))) : w.heap.size ≤ gb295)); clear HB; have HB := n0_; have BK295 := n1_; have GW295 := n2_; have GE295 := n3_; clear n0_ n1_ n2_ n3_; clear hb hbox hg; have hcz8_0 : w7.cell? ⟨gb295, 0, none⟩ = some (.slice A0_0 l0_0.length c0_0) := (blk_cell BK295.out 0).trans rfl; have hcz8_1 : w7.cell? ⟨gb295, 1, none⟩ = some (.slice A0_1 l0_1.length c0_1) := (blk_cell BK295.out 1).trans rfl; have hcz8_2 : w7.cell? ⟨gb295, 2, none⟩ = some (.int .u64 a0_2) := (blk_cell BK295.out 2).trans rfl; have hcz8_3 : w7.cell? ⟨gb295, 3, none⟩ = some (.int .u64 a0_3) := (blk_cell BK295.out 3).trans rfl; have hfz8_0 := blk_frozen BK295.out 0; have hfz8_1 := blk_frozen BK295.out 1; have hfz8_2 := blk_frozen BK295.out 2; have hfz8_3 := blk_frozen BK295.out 3) | (go_at_call 34; (with_reducible refine (marginaliaref23_Newest.calls _ _ l0_0 _ _ l0_1 a0_2 a0_3 t296 _ ?side1 ?side2 ?side3 ?side4 A5.out).mono ?_); (case side1 => repeat (first | exact (Kd.C_below HR0_0.out HB.out) | (with_reducible refine Kd.C_alloc ?_ _) | (with_reducible refine Kd.C_drewN ?_ _) | (with_reducible refine Kd.C_drew ?_))); (case side2 => exact HC0_0.out); (case side3 => repeat (first | exact (Kd.C_below HR0_1.out HB.out) | (with_reducible refine Kd.C_alloc ?_ _) | (with_reducible refine Kd.C_drewN ?_ _) | (with_reducible refine Kd.C_drew ?_))); (case side4 => exact HC0_1.out); rintro e w9 ⟨rfl, hb⟩; have n0_ := Aside0.mk (blk_below (g := gb295) (o := .cells #[.slice A0_0 l0_0.length c0_0, .slice A0_1 l0_1.length c0_1, .int .u64 a0_2, .int .u64 a0_3] 58 (0, 0)) (by (with_reducible repeat (first | refine blk_drewN ?_ _ | refine blk_drew ?_ | refine blk_alloc ?_ _)); exact BK295.out) hb); have n1_ := Aside0.mk (below_step (by repeat (first | (with_reducible first | exact HB.out | apply below_alloc | apply pw_below_drewN | apply below_drew1 | refine below_set ?_ GE295.out) | exact HB.out)) hb); clear BK295; clear HB; have BK295 := n0_; have HB := n1_; clear n0_ n1_; (try clear hb); (try clear hb2); (try clear hk); (try clear hi)))
      go_ret2
      exact ⟨by first | rfl | (simp [errW_none, errW_some] <;> rfl) | (simp [*, errW_none, errW_some] <;> rfl), by repeat (first | (with_reducible first | exact HB.out | apply below_alloc | apply pw_below_drewN | apply below_drew1 | refine below_set ?_ GE295.out) | exact HB.out)⟩
    · rw [if_neg c6] at H
      have c6b0 : decide (t296 < a1) = false := decide_eq_false c6
      clear c6
      obtain ⟨ji10, hji10⟩ : ∃ j_ : Int, (IntKind.u64.wrap (a1 - 1)) = j_ := ⟨_, rfl⟩
      replace H : (if 0 ≤ (ji10) then (if (ji10) < (l0_1.length : Int) then (some (rdOf ByteArray.empty l0_1 (ji10), true)) else (none)) else (none)) = some (r1, r2) := by first | (rw [hji10] at H; exact H) | (simp only [hji10] at H ⊢; exact H)
      (try rw [hji10] at A5)
      by_cases c11 : 0 ≤ (ji10)
      · rw [if_pos c11] at H
        have c11b0 : decide (0 ≤ (ji10)) = true := decide_eq_true c11
        clear c11
        by_cases c12 : (ji10) < (l0_1.length : Int)
        · rw [if_pos c12] at H
          have c12b0 : decide ((ji10) < (l0_1.length : Int)) = true := decide_eq_true c12
          clear c12
          simp only [Option.some.injEq, Prod.mk.injEq] at H
          obtain ⟨rfl, rfl⟩ := H
          go_enter Try.func38, Try.ntmps38
          go_wp2_with (first | ((with_reducible refine gate_dst (N := 2) rfl ?_); refine box_event ?hg (N := 2) ?hd (cs := #[.slice A0_0 l0_0.length c0_0, .slice A0_1 l0_1.length c0_1, .int .u64 a0_2, .int .u64 a0_3]) (t := 58) ?hr ?_; (case hd => rfl); (case hg => rfl); (case hr => first | (go_simp; done) | (go_simp; rfl)); intro gb295 hg w13 hbox hb; have n0_ := Aside0.mk (below_step (by repeat (first | (with_reducible first | exact HB.out | apply below_alloc | apply pw_below_drewN | apply below_drew1) | exact HB.out)) hb); have n1_ := Aside0.mk (hbox); have n2_ := Aside0.mk ((by rw [hg]; exact (below_size (by repeat (first | (with_reducible first | exact HB.out | apply below_alloc | apply pw_below_drewN | apply below_drew1) | exact HB.out))) : w.heap.size ≤ gb295)); have n3_ := Aside0.mk ((by rw [hg]; exact (below_size (by repeat (first | (with_reducible first | exact HB.out | apply below_alloc | apply pw_below_drewN | apply below_drew1) | exact HB.out))) : w.heap.size ≤ gb295)); clear HB; have HB := n0_; have BK295 := n1_; have GW295 := n2_; have GE295 := n3_; clear n0_ n1_ n2_ n3_; clear hb hbox hg; have hcz14_0 : w13.cell? ⟨gb295, 0, none⟩ = some (.slice A0_0 l0_0.length c0_0) := (blk_cell BK295.out 0).trans rfl; have hcz14_1 : w13.cell? ⟨gb295, 1, none⟩ = some (.slice A0_1 l0_1.length c0_1) := (blk_cell BK295.out 1).trans rfl; have hcz14_2 : w13.cell? ⟨gb295, 2, none⟩ = some (.int .u64 a0_2) := (blk_cell BK295.out 2).trans rfl; have hcz14_3 : w13.cell? ⟨gb295, 3, none⟩ = some (.int .u64 a0_3) := (blk_cell BK295.out 3).trans rfl; have hfz14_0 := blk_frozen BK295.out 0; have hfz14_1 := blk_frozen BK295.out 1; have hfz14_2 := blk_frozen BK295.out 2; have hfz14_3 := blk_frozen BK295.out 3) | (go_at_call 34; (with_reducible refine (marginaliaref23_Newest.calls _ _ l0_0 _ _ l0_1 a0_2 a0_3 t296 _ ?side1 ?side2 ?side3 ?side4 A5.out).mono ?_); (case side1 => repeat (first | exact (Kd.C_below HR0_0.out HB.out) | (with_reducible refine Kd.C_alloc ?_ _) | (with_reducible refine Kd.C_drewN ?_ _) | (with_reducible refine Kd.C_drew ?_))); (case side2 => exact HC0_0.out); (case side3 => repeat (first | exact (Kd.C_below HR0_1.out HB.out) | (with_reducible refine Kd.C_alloc ?_ _) | (with_reducible refine Kd.C_drewN ?_ _) | (with_reducible refine Kd.C_drew ?_))); (case side4 => exact HC0_1.out); rintro e w15 ⟨rfl, hb⟩; have n0_ := Aside0.mk (blk_below (g := gb295) (o := .cells #[.slice A0_0 l0_0.length c0_0, .slice A0_1 l0_1.length c0_1, .int .u64 a0_2, .int .u64 a0_3] 58 (0, 0)) (by (with_reducible repeat (first | refine blk_drewN ?_ _ | refine blk_drew ?_ | refine blk_alloc ?_ _)); exact BK295.out) hb); have n1_ := Aside0.mk (below_step (by repeat (first | (with_reducible first | exact HB.out | apply below_alloc | apply pw_below_drewN | apply below_drew1 | refine below_set ?_ GE295.out) | exact HB.out)) hb); clear BK295; clear HB; have BK295 := n0_; have HB := n1_; clear n0_ n1_; (try clear hb); (try clear hb2); (try clear hk); (try clear hi); have hcz16_0 : w15.cell? ⟨gb295, 0, none⟩ = some (.slice A0_0 l0_0.length c0_0) := (blk_cell BK295.out 0).trans rfl; have hcz16_1 : w15.cell? ⟨gb295, 1, none⟩ = some (.slice A0_1 l0_1.length c0_1) := (blk_cell BK295.out 1).trans rfl; have hcz16_2 : w15.cell? ⟨gb295, 2, none⟩ = some (.int .u64 a0_2) := (blk_cell BK295.out 2).trans rfl; have hcz16_3 : w15.cell? ⟨gb295, 3, none⟩ = some (.int .u64 a0_3) := (blk_cell BK295.out 3).trans rfl; have hfz16_0 := blk_frozen BK295.out 0; have hfz16_1 := blk_frozen BK295.out 1; have hfz16_2 := blk_frozen BK295.out 2; have hfz16_3 := blk_frozen BK295.out 3; have p297 : 0 ≤ ((ji10) : Int) := of_decide_eq_true (by first | (with_reducible assumption) | assumption); have q297 : (ji10) < (l0_1.length : Int) := of_decide_eq_true (by first | (with_reducible assumption) | assumption); obtain ⟨ad297, e297, hx297_0⟩ := Kd.at_string HR0_1.out (ji10) p297 q297; cases e297; replace hx297_0 := (HB.out.cell (World.block_lt_of_cell? w _ hx297_0)).trans hx297_0; replace p297 := eq_true p297; replace q297 := eq_true q297))
          go_ret2
          exact ⟨by first | rfl | (simp [errW_none, errW_some] <;> rfl) | (simp only [← hji10]; first | rfl | (simp [errW_none, errW_some] <;> rfl)) | (simp [*, errW_none, errW_some] <;> rfl), by repeat (first | (with_reducible first | exact HB.out | apply below_alloc | apply pw_below_drewN | apply below_drew1 | refine below_set ?_ GE295.out) | exact HB.out)⟩
        · rw [if_neg c12] at H
          exact absurd H (by simp)
      · rw [if_neg c11] at H
        exact absurd H (by simp)

def marginaliaref23_Status.f (l0_0 : List (S42)) (l0_1 : List ByteArray) (a0_2 : Int) (a0_3 : Int) : Option (Int × Int × Int × Int) := (marginaliaref23_Newest.f l0_0 l0_1 a0_2 a0_3).bind fun t300 => (some (a0_2, t300, (l0_0.length : Int), a0_3))
def marginaliaref23_Status.T1 : Bool × List (List Nat × List Nat) := (true, [([], []), ([0], [0]), ([], []), ([2], [2]), ([], []), ([4], [4]), ([5], [5]), ([], []), ([7], [7]), ([1, 3, 6, 8], [1, 3, 6, 8]), ([9, 3, 0, 1, 2, 3, 4, 5, 6, 7, 8, 9], [9])])
def marginaliaref23_Status.B1 : List Nat := [0, 1, 0, 4, 0, 16, 48, 0, 128, 511, 1023]
theorem marginaliaref23_Status.tab1 : rtab .any (opsOf Try.f39 1) = marginaliaref23_Status.T1 := by kernel_rfl
theorem marginaliaref23_Status.bits1 : waitsOk marginaliaref23_Status.T1.2 marginaliaref23_Status.B1 = true := by kernel_rfl
set_option maxHeartbeats 8000000 in
set_option maxRecDepth 100000 in
theorem marginaliaref23_Status.calls (A0_0 : Option Addr) (c0_0 : Nat) (l0_0 : List (S42)) (A0_1 : Option Addr) (c0_1 : Nat) (l0_1 : List ByteArray) (a0_2 : Int) (a0_3 : Int) (r1 : Int) (r2 : Int) (r3 : Int) (r4 : Int) (w : World) (hr0_0 : Kd.C k42 w A0_0 l0_0.length l0_0) (hc0_0 : l0_0.length ≤ c0_0) (hr0_1 : Kd.C Kd.string w A0_1 l0_1.length l0_1) (hc0_1 : l0_1.length ≤ c0_1) (h : marginaliaref23_Status.f l0_0 l0_1 a0_2 a0_3 = some (r1, r2, r3, r4)) :
    Calls Try.prog 39 #[.agg #[.slice A0_0 l0_0.length c0_0, .slice A0_1 l0_1.length c0_1, .int .u64 a0_2, .int .u64 a0_3]] w fun e w' => e = .returned (.agg #[.int .u64 r1, .int .u64 r2, .int .i64 r3, .int .u64 r4]) ∧ Below w.heap.size w w' := by
  have hu58 := Try.underlying58
  have hu37 := Try.underlying37
  have HR0_0 := Aside0.mk hr0_0
  have HC0_0 := Aside0.mk hc0_0
  clear hr0_0 hc0_0
  have HR0_1 := Aside0.mk hr0_1
  have HC0_1 := Aside0.mk hc0_1
  clear hr0_1 hc0_1
  have HB := Aside0.mk (Below.refl w.heap.size w)
  have H : ((marginaliaref23_Newest.f l0_0 l0_1 a0_2 a0_3).bind fun t300 => (some (a0_2, t300, (l0_0.length : Int), a0_3))) = some (r1, r2, r3, r4) := h
  clear h
  replace H := Option.bind_eq_some_iff.mp H
  obtain ⟨t300, A20, H⟩ := H
  replace H : (some (a0_2, t300, (l0_0.length : Int), a0_3)) = some (r1, r2, r3, r4) := H
  have A2 := Aside0.mk A20
  clear A20
  simp only [Option.some.injEq, Prod.mk.injEq] at H
  obtain ⟨rfl, rfl, rfl, rfl⟩ := H
  go_enter Try.func39, Try.ntmps39
  try go_wp2_with (first | ((with_reducible refine gate_dst (N := 1) rfl ?_); refine box_event ?hg (N := 1) ?hd (cs := #[.slice A0_0 l0_0.length c0_0, .slice A0_1 l0_1.length c0_1, .int .u64 a0_2, .int .u64 a0_3]) (t := 58) ?hr ?_; (case hd => rfl); (case hg => rfl); (case hr => first | (go_simp; done) | (go_simp; rfl)); intro gb298 hg w3 hbox hb; have n0_ := Aside0.mk (below_step (by repeat (first | (with_reducible first | exact HB.out | apply below_alloc | apply pw_below_drewN | apply below_drew1) | exact HB.out)) hb); have n1_ := Aside0.mk (hbox); have n2_ := Aside0.mk ((by rw [hg]; exact (below_size (by repeat (first | (with_reducible first | exact HB.out | apply below_alloc | apply pw_below_drewN | apply below_drew1) | exact HB.out))) : w.heap.size ≤ gb298)); have n3_ := Aside0.mk ((by rw [hg]; exact (below_size (by repeat (first | (with_reducible first | exact HB.out | apply below_alloc | apply pw_below_drewN | apply below_drew1) | exact HB.out))) : w.heap.size ≤ gb298)); clear HB; have HB := n0_; have BK298 := n1_; have GW298 := n2_; have GE298 := n3_; clear n0_ n1_ n2_ n3_; clear hb hbox hg) | ((with_reducible refine gate_dst (N := 2) rfl ?_); refine box_event ?hg (N := 2) ?hd (cs := #[.int .u64 0, .int .u64 0, .int .i64 0, .int .u64 0]) (t := 37) ?hr ?_; (case hd => rfl); (case hg => rfl); (case hr => first | (go_simp; done) | (go_simp; rfl)); intro gb299 hg w4 hbox hb; have n0_ := Aside0.mk (blk_below (g := gb298) (o := .cells #[.slice A0_0 l0_0.length c0_0, .slice A0_1 l0_1.length c0_1, .int .u64 a0_2, .int .u64 a0_3] 58 (0, 0)) (by (with_reducible repeat (first | refine blk_drewN ?_ _ | refine blk_drew ?_ | refine blk_alloc ?_ _)); exact BK298.out) hb); have n1_ := Aside0.mk (below_step (by repeat (first | (with_reducible first | exact HB.out | apply below_alloc | apply pw_below_drewN | apply below_drew1 | refine below_set ?_ GE298.out) | exact HB.out)) hb); have n2_ := Aside0.mk (hbox); have n3_ := Aside0.mk ((by rw [hg]; exact (below_size (by repeat (first | (with_reducible first | exact HB.out | apply below_alloc | apply pw_below_drewN | apply below_drew1 | refine below_set ?_ GE298.out) | exact HB.out))) : w.heap.size ≤ gb299)); have n4_ := Aside0.mk ((by rw [hg]; exact (below_size (by repeat (first | (with_reducible first | exact HB.out | apply below_alloc | apply pw_below_drewN | apply below_drew1 | refine below_set ?_ GE298.out) | exact HB.out))) : w.heap.size ≤ gb299)); have n5_ := Aside0.mk ((by rw [hg]; exact Nat.ne_of_lt (blk_lt (g := gb298) (o := .cells #[.slice A0_0 l0_0.length c0_0, .slice A0_1 l0_1.length c0_1, .int .u64 a0_2, .int .u64 a0_3] 58 (0, 0)) (by (with_reducible repeat (first | refine blk_drewN ?_ _ | refine blk_drew ?_ | refine blk_alloc ?_ _)); exact BK298.out)) : gb298 ≠ gb299)); have n6_ := Aside0.mk ((by rw [hg]; exact Nat.ne_of_gt (blk_lt (g := gb298) (o := .cells #[.slice A0_0 l0_0.length c0_0, .slice A0_1 l0_1.length c0_1, .int .u64 a0_2, .int .u64 a0_3] 58 (0, 0)) (by (with_reducible repeat (first | refine blk_drewN ?_ _ | refine blk_drew ?_ | refine blk_alloc ?_ _)); exact BK298.out)) : gb299 ≠ gb298)); clear BK298; clear HB; have BK298 := n0_; have HB := n1_; have BK299 := n2_; have GW299 := n3_; have GE299 := n4_; have NB298_299 := n5_; have NB299_298 := n6_; clear n0_ n1_ n2_ n3_ n4_ n5_ n6_; clear hb hbox hg))
  have n0_ := Aside0.mk (blk_drew BK298.out)
  have n1_ := Aside0.mk (blk_drew BK299.out)
  have n2_ := Aside0.mk (below_drew1 HB.out)
  clear BK298
  clear BK299
  clear HB
  have BK298 := n0_
  have BK299 := n1_
  have HB := n2_
  clear n0_ n1_ n2_
  refine start_ (n := 11) (S := fun w' => w'.cell? ⟨gb298, 0, none⟩ = some (.slice A0_0 l0_0.length c0_0) ∧ w'.cell? ⟨gb298, 1, none⟩ = some (.slice A0_1 l0_1.length c0_1) ∧ w'.cell? ⟨gb298, 2, none⟩ = some (.int .u64 a0_2) ∧ w'.cell? ⟨gb298, 3, none⟩ = some (.int .u64 a0_3)) (ds := []) #[false, false, false, false, false, false, false, false, false, false, false] (by kernel_rfl) rfl rfl ⟨(blk_cell BK298.out 0).trans rfl, (blk_cell BK298.out 1).trans rfl, (blk_cell BK298.out 2).trans rfl, (blk_cell BK298.out 3).trans rfl⟩ (fun hHeld => ?_); refine with_tabW marginaliaref23_Status.tab1 marginaliaref23_Status.bits1 (fun HT_ HW_ => ?_)
  generalize w4.drew = w5 at BK298 BK299 HB hHeld ⊢
  refine pure_ (i := 0) (N := some 3) (v := ?_) (a' := ?_) #[true, false, false, false, false, false, false, false, false, false, false] rfl rfl (any_of HT_.out (by kernel_rfl)) (fun _ _ _ h => h) (Or.inl ⟨by rfl, ?_⟩) ?_ ?_
  rotate_left
  · intro w'
    go_simp
    with_reducible rfl
  rotate_left
  · simp only [Act.put, List.setIfInBounds_toArray, List.set_cons_zero, List.set_cons_succ, i64_w, i32_w]
    rfl
  refine pure_ (i := 4) (N := some 7) (v := ?_) (a' := ?_) #[true, false, false, false, true, false, false, false, false, false, false] rfl rfl (any_of HT_.out (by kernel_rfl)) (fun _ _ _ h => h) (Or.inl ⟨by rfl, ?_⟩) ?_ ?_
  rotate_left
  · intro w'
    go_simp
    with_reducible rfl
  rotate_left
  · simp only [Act.put, List.setIfInBounds_toArray, List.set_cons_zero, List.set_cons_succ, i64_w, i32_w]
    rfl
  refine pure_ (i := 7) (N := some 10) (v := ?_) (a' := ?_) #[true, false, false, false, true, false, false, true, false, false, false] rfl rfl (any_of HT_.out (by kernel_rfl)) (fun _ _ _ h => h) (Or.inl ⟨by rfl, ?_⟩) ?_ ?_
  rotate_left
  · intro w'
    go_simp
    with_reducible rfl
  rotate_left
  · simp only [Act.put, List.setIfInBounds_toArray, List.set_cons_zero, List.set_cons_succ, i64_w, i32_w]
    rfl
  refine take_ (i := 1) (N := some 4) (v := ?_) (a' := ?_) #[true, true, false, false, true, false, false, true, false, false, false] rfl rfl (take_ofW HT_.out HW_.out (by kernel_rfl)) (fun _ _ _ h => h) (Or.inl ⟨by rfl, ?_⟩) hHeld ?_ ?_
  rotate_left
  · rintro w' ⟨s0, s1, s2, s3⟩
    go_simp
    with_reducible rfl
  rotate_left
  · simp only [Act.put, List.setIfInBounds_toArray, List.set_cons_zero, List.set_cons_succ, i64_w, i32_w]
    rfl
  refine take_ (i := 2) (N := some 5) (v := ?_) (a' := ?_) #[true, true, true, false, true, false, false, true, false, false, false] rfl rfl (take_ofW HT_.out HW_.out (by kernel_rfl)) (fun _ _ _ h => h) (Or.inl ⟨by rfl, ?_⟩) hHeld ?_ ?_
  rotate_left
  · rintro w' ⟨s0, s1, s2, s3⟩
    go_simp
    with_reducible rfl
  rotate_left
  · simp only [Act.put, List.setIfInBounds_toArray, List.set_cons_zero, List.set_cons_succ, i64_w, i32_w]
    rfl
  refine take_ (i := 5) (N := some 8) (v := ?_) (a' := ?_) #[true, true, true, false, true, true, false, true, false, false, false] rfl rfl (take_ofW HT_.out HW_.out (by kernel_rfl)) (fun _ _ _ h => h) (Or.inl ⟨by rfl, ?_⟩) hHeld ?_ ?_
  rotate_left
  · rintro w' ⟨s0, s1, s2, s3⟩
    go_simp
    with_reducible rfl
  rotate_left
  · simp only [Act.put, List.setIfInBounds_toArray, List.set_cons_zero, List.set_cons_succ, i64_w, i32_w]
    rfl
  refine pure_ (i := 6) (N := some 9) (v := ?_) (a' := ?_) #[true, true, true, false, true, true, true, true, false, false, false] rfl rfl (any_of HT_.out (by kernel_rfl)) (fun _ _ _ h => h) (Or.inl ⟨by rfl, ?_⟩) ?_ ?_
  rotate_left
  · intro w'
    go_simp
    with_reducible rfl
  rotate_left
  · simp only [Act.put, List.setIfInBounds_toArray, List.set_cons_zero, List.set_cons_succ, i64_w, i32_w]
    rfl
  refine take_ (i := 8) (N := some 11) (v := ?_) (a' := ?_) #[true, true, true, false, true, true, true, true, true, false, false] rfl rfl (take_ofW HT_.out HW_.out (by kernel_rfl)) (fun _ _ _ h => h) (Or.inl ⟨by rfl, ?_⟩) hHeld ?_ ?_
  rotate_left
  · rintro w' ⟨s0, s1, s2, s3⟩
    go_simp
    with_reducible rfl
  rotate_left
  · simp only [Act.put, List.setIfInBounds_toArray, List.set_cons_zero, List.set_cons_succ, i64_w, i32_w]
    rfl
  refine one_ (i := 3) (N := some 6) #[true, true, true, true, true, true, true, true, true, false, false] rfl rfl (one_of HT_.out (by kernel_rfl)) (by decide) (fun K hK => ?_)
  refine goes_ Try.func34 (by kernel_rfl) rfl #[.agg #[.slice A0_0 l0_0.length c0_0, .slice A0_1 l0_1.length c0_1, .int .u64 a0_2, .int .u64 a0_3]] (by rfl) rfl rfl (by (try simp only [List.map_toArray, List.map_cons, List.map_nil]); first | done | rfl | (simp only [List.length_drop, List.length_take]; rfl)) ?_
  with_reducible refine (marginaliaref23_Newest.calls _ _ l0_0 _ _ l0_1 a0_2 a0_3 t300 _ ?side1 ?side2 ?side3 ?side4 A2.out).mono ?_
  (case side1 => repeat (first | exact (Kd.C_below HR0_0.out HB.out) | (with_reducible refine Kd.C_alloc ?_ _) | (with_reducible refine Kd.C_drewN ?_ _) | (with_reducible refine Kd.C_drew ?_)))
  (case side2 => exact HC0_0.out)
  (case side3 => repeat (first | exact (Kd.C_below HR0_1.out HB.out) | (with_reducible refine Kd.C_alloc ?_ _) | (with_reducible refine Kd.C_drewN ?_ _) | (with_reducible refine Kd.C_drew ?_)))
  (case side4 => exact HC0_1.out)
  rintro e w6 ⟨rfl, hb⟩
  refine ⟨_, rfl, ?_⟩
  have n0_ := Aside0.mk (blk_below (g := gb298) (o := .cells #[.slice A0_0 l0_0.length c0_0, .slice A0_1 l0_1.length c0_1, .int .u64 a0_2, .int .u64 a0_3] 58 (0, 0)) (by (with_reducible repeat (first | refine blk_drewN ?_ _ | refine blk_drew ?_ | refine blk_alloc ?_ _)); exact BK298.out) hb)
  have n1_ := Aside0.mk (blk_below (g := gb299) (o := .cells #[.int .u64 0, .int .u64 0, .int .i64 0, .int .u64 0] 37 (0, 0)) (by (with_reducible repeat (first | refine blk_drewN ?_ _ | refine blk_drew ?_ | refine blk_alloc ?_ _)); exact BK299.out) hb)
  have n2_ := Aside0.mk (below_step (by repeat (first | (with_reducible first | exact HB.out | apply below_alloc | apply pw_below_drewN | apply below_drew1 | refine below_set ?_ GE298.out | refine below_set ?_ GE299.out) | exact HB.out)) hb)
  clear BK298
  clear BK299
  clear HB
  have BK298 := n0_
  have BK299 := n1_
  have HB := n2_
  clear n0_ n1_ n2_
  (try clear hb)
  (try clear hb2)
  (try clear hk)
  (try clear hi)
  refine hK.out _ _ ⟨(blk_cell BK298.out 0).trans rfl, (blk_cell BK298.out 1).trans rfl, (blk_cell BK298.out 2).trans rfl, (blk_cell BK298.out 3).trans rfl⟩ (fun hHeld => ?_)
  clear hK K
  refine norm_ (a' := ?_) ?_ ?_
  rotate_left
  · show Act.put _ (some 6) _ = _
    simp only [Act.put, List.setIfInBounds_toArray, List.set_cons_zero, List.set_cons_succ, i64_w, i32_w]
    rfl
  refine pure_ (i := 9) (N := some 12) (v := ?_) (a' := ?_) #[true, true, true, true, true, true, true, true, true, true, false] rfl rfl (any_of HT_.out (by kernel_rfl)) (fun _ _ _ h => h) (Or.inl ⟨by rfl, ?_⟩) ?_ ?_
  rotate_left
  · intro w'
    go_simp
    with_reducible rfl
  rotate_left
  · simp only [Act.put, List.setIfInBounds_toArray, List.set_cons_zero, List.set_cons_succ, i64_w, i32_w]
    rfl
  refine one_ (i := 10) (N := none) #[true, true, true, true, true, true, true, true, true, true, true] rfl rfl (one_of HT_.out (by kernel_rfl)) (by decide) (fun K hK => ?_)
  have hs7 : w6.cell? ⟨gb299, 0, none⟩ = some (.int .u64 0) := (blk_cell BK299.out 0).trans rfl
  have hfs7 := blk_frozen BK299.out 0
  have hns7_0 := NB298_299.out
  have hms7_0 := NB299_298.out
  have hs8 : w6.cell? ⟨gb299, 1, none⟩ = some (.int .u64 0) := (blk_cell BK299.out 1).trans rfl
  have hfs8 := blk_frozen BK299.out 1
  have hns8_0 := NB298_299.out
  have hms8_0 := NB299_298.out
  have hs9 : w6.cell? ⟨gb299, 2, none⟩ = some (.int .i64 0) := (blk_cell BK299.out 2).trans rfl
  have hfs9 := blk_frozen BK299.out 2
  have hns9_0 := NB298_299.out
  have hms9_0 := NB299_298.out
  have hs10 : w6.cell? ⟨gb299, 3, none⟩ = some (.int .u64 0) := (blk_cell BK299.out 3).trans rfl
  have hfs10 := blk_frozen BK299.out 3
  have hns10_0 := NB298_299.out
  have hms10_0 := NB299_298.out
  refine skip_ (w1 := ?_) (by rfl) rfl ?_ ?_
  rotate_left
  · go_simp
    rfl
  refine hK.out _ _ ⟨((cell_far (p := ⟨gb299, _, none⟩) NB298_299.out _).trans (((cell_far (p := ⟨gb299, _, none⟩) NB298_299.out _).trans (((cell_far (p := ⟨gb299, _, none⟩) NB298_299.out _).trans (((cell_far (p := ⟨gb299, _, none⟩) NB298_299.out _).trans (hHeld.1)))))))), ((cell_far (p := ⟨gb299, _, none⟩) NB298_299.out _).trans (((cell_far (p := ⟨gb299, _, none⟩) NB298_299.out _).trans (((cell_far (p := ⟨gb299, _, none⟩) NB298_299.out _).trans (((cell_far (p := ⟨gb299, _, none⟩) NB298_299.out _).trans (hHeld.2.1)))))))), ((cell_far (p := ⟨gb299, _, none⟩) NB298_299.out _).trans (((cell_far (p := ⟨gb299, _, none⟩) NB298_299.out _).trans (((cell_far (p := ⟨gb299, _, none⟩) NB298_299.out _).trans (((cell_far (p := ⟨gb299, _, none⟩) NB298_299.out _).trans (hHeld.2.2.1)))))))), ((cell_far (p := ⟨gb299, _, none⟩) NB298_299.out _).trans (((cell_far (p := ⟨gb299, _, none⟩) NB298_299.out _).trans (((cell_far (p := ⟨gb299, _, none⟩) NB298_299.out _).trans (((cell_far (p := ⟨gb299, _, none⟩) NB298_299.out _).trans (hHeld.2.2.2))))))))⟩ (fun hHeld => ?_)
  clear hK K
  refine done_ (done_of HT_.out (by kernel_rfl)) ?_
  try go_wp2
  refine bodyPost_ret (results_cell_row rfl _ _ gb299 37 #[.int .u64 a0_2, .int .u64 t300, .int .i64 (l0_0.length : Int), .int .u64 a0_3] (0, 0) _ rfl (by (with_reducible repeat (first | refine blk_drewN ?_ _ | refine blk_drew ?_ | refine blk_alloc ?_ _)); refine blk_put (cs := #[.int .u64 a0_2, .int .u64 t300, .int .i64 (l0_0.length : Int), .int .u64 0]) ?_ 3 _ rfl; (with_reducible repeat (first | refine blk_drewN ?_ _ | refine blk_drew ?_ | refine blk_alloc ?_ _)); refine blk_put (cs := #[.int .u64 a0_2, .int .u64 t300, .int .i64 0, .int .u64 0]) ?_ 2 _ rfl; (with_reducible repeat (first | refine blk_drewN ?_ _ | refine blk_drew ?_ | refine blk_alloc ?_ _)); refine blk_put (cs := #[.int .u64 a0_2, .int .u64 0, .int .i64 0, .int .u64 0]) ?_ 1 _ rfl; (with_reducible repeat (first | refine blk_drewN ?_ _ | refine blk_drew ?_ | refine blk_alloc ?_ _)); refine blk_put (cs := #[.int .u64 0, .int .u64 0, .int .i64 0, .int .u64 0]) ?_ 0 _ rfl; (with_reducible repeat (first | refine blk_drewN ?_ _ | refine blk_drew ?_ | refine blk_alloc ?_ _)); exact BK299.out) Try.underlying37 rfl (by kernel_rfl)) rfl ?_
  exact ⟨by first | rfl | (simp [errW_none, errW_some] <;> rfl) | (simp [*, errW_none, errW_some] <;> rfl), by repeat (first | (with_reducible first | exact HB.out | apply below_alloc | apply pw_below_drewN | apply below_drew1 | refine below_set ?_ GE298.out | refine below_set ?_ GE299.out) | exact HB.out)⟩

def marginaliaref23_Numbers.l0 : Nat → List Int → List Int → Int → Option (Bool)
  | 0, _, _, _ => none
  | k + 1, x0, x1, x5 => if x5 < (x0.length : Int) then (if 0 ≤ x5 then (if x5 < (x1.length : Int) then (if (rd x0 x5) = (rd x1 x5) then (marginaliaref23_Numbers.l0 k x0 x1 (wrap64 (x5 + 1))) else (some false)) else (none)) else (none)) else (some true)
def marginaliaref23_Numbers.f (k : Nat) (l0 : List Int) (l1 : List Int) : Option (Bool) := if (l0.length : Int) = (l1.length : Int) then (marginaliaref23_Numbers.l0 k l0 l1 0) else (some false)
set_option maxHeartbeats 8000000 in
set_option maxRecDepth 100000 in
theorem marginaliaref23_Numbers.calls (k : Nat) (A0 : Option Addr) (c0 : Nat) (l0 : List Int) (A1 : Option Addr) (c1 : Nat) (l1 : List Int) (r : Bool) (w : World) (hr0 : Kd.C (Kd.int .u64) w A0 l0.length l0) (hc0 : l0.length ≤ c0) (hr1 : Kd.C (Kd.int .u64) w A1 l1.length l1) (hc1 : l1.length ≤ c1) (h : marginaliaref23_Numbers.f k l0 l1 = some r) :
    Calls Try.prog 40 #[.slice A0 l0.length c0, .slice A1 l1.length c1] w fun e w' => e = .returned (.bool r) ∧ Drawn0 w w' := by
  have HR0 := Aside0.mk hr0
  have HC0 := Aside0.mk hc0
  clear hr0 hc0
  have HR1 := Aside0.mk hr1
  have HC1 := Aside0.mk hc1
  clear hr1 hc1
  have H : (if (l0.length : Int) = (l1.length : Int) then (marginaliaref23_Numbers.l0 k l0 l1 0) else (some false)) = some r := h
  clear h
  by_cases c3 : (l0.length : Int) = (l1.length : Int)
  · rw [if_pos c3] at H
    have c3b0 : ((l0.length : Int) == (l1.length : Int)) = true := beq_iff_eq.mpr c3
    have c3b1 : ((l0.length : Int) != (l1.length : Int)) = false := bne_eq_false_iff_eq.mpr c3
    have c3b2 : (l0.length == l1.length) = true := by first | simpa using c3 | (simp at c3 ⊢; omega)
    clear c3
    have H' := Aside0.mk H
    clear H
    go_enter Try.func40, Try.ntmps40
    go_wp2
    repeat (go_quiet (fail); try go_wp2)
    go_loopg [5] k (fun kq v5 w' => ∃ (x5_1 : Int), v5 = .int .i64 x5_1 ∧ Aside0 (marginaliaref23_Numbers.l0 kq l0 l1 x5_1 = some r) ∧ Aside0 (kq ≤ k) ∧ Drawn0 w w')
    case atStart => exact ⟨(0), (by first | rfl | (simp; done) | (simp [*]; done)), H', ⟨Nat.le_refl _⟩, by repeat (first | exact Drawn0.refl _ | apply Drawn0.step)⟩
    case round =>
      clear H'
      try clear c1
      try clear p2
      try clear c3
      try clear c3b0
      try clear c3b1
      try clear c3b2
      obtain ⟨x5_1, rfl, HA, HK1, ⟨m1, rfl⟩⟩ := hrel
      cases gk with
      | zero => exact absurd HA.out (by simp [marginaliaref23_Numbers.l0])
      | succ k1 =>
        have H := HA.out
        clear HA
        simp only [marginaliaref23_Numbers.l0] at H
        by_cases c4 : x5_1 < (l0.length : Int)
        · rw [if_pos c4] at H
          have c4b0 : decide (x5_1 < (l0.length : Int)) = true := decide_eq_true c4
          clear c4
          by_cases c5 : 0 ≤ x5_1
          · rw [if_pos c5] at H
            have c5b0 : decide (0 ≤ x5_1) = true := decide_eq_true c5
            clear c5
            by_cases c6 : x5_1 < (l1.length : Int)
            · rw [if_pos c6] at H
              have c6b0 : decide (x5_1 < (l1.length : Int)) = true := decide_eq_true c6
              clear c6
              by_cases c7 : (rd l0 x5_1) = (rd l1 x5_1)
              · rw [if_pos c7] at H
                have c7b0 : ((rd l0 x5_1) == (rd l1 x5_1)) = true := beq_iff_eq.mpr c7
                have c7b1 : ((rd l0 x5_1) != (rd l1 x5_1)) = false := bne_eq_false_iff_eq.mpr c7
                clear c7
                have H' := Aside0.mk H
                clear H
                have p301 : 0 ≤ (x5_1 : Int) := of_decide_eq_true (by first | (with_reducible assumption) | assumption)
                have q301 : x5_1 < (l0.length : Int) := of_decide_eq_true (by first | (with_reducible assumption) | assumption)
                obtain ⟨ad301, e301, hx301_0⟩ := Kd.at_int HR0.out x5_1 p301 q301
                cases e301
                replace p301 := eq_true p301
                replace q301 := eq_true q301
                have p302 : 0 ≤ (x5_1 : Int) := of_decide_eq_true (by first | (with_reducible assumption) | assumption)
                have q302 : x5_1 < (l1.length : Int) := of_decide_eq_true (by first | (with_reducible assumption) | assumption)
                obtain ⟨ad302, e302, hx302_0⟩ := Kd.at_int HR1.out x5_1 p302 q302
                cases e302
                replace p302 := eq_true p302
                replace q302 := eq_true q302
                go_wp2
                repeat (go_quiet (fail); try go_wp2)
                go_roundg k1
                case measure => have := HK1.out; omega
                case rel => exact ⟨(wrap64 (x5_1 + 1)), (by first | rfl | (simp; done) | (simp [*]; done)), H', ⟨by have := HK1.out; omega⟩, by repeat (first | exact Drawn0.refl _ | apply Drawn0.step)⟩
              · rw [if_neg c7] at H
                have c7b0 : ((rd l0 x5_1) == (rd l1 x5_1)) = false := beq_eq_false_iff_ne.mpr c7
                have c7b1 : ((rd l0 x5_1) != (rd l1 x5_1)) = true := bne_iff_ne.mpr c7
                obtain rfl := Option.some.inj H
                have p301 : 0 ≤ (x5_1 : Int) := of_decide_eq_true (by first | (with_reducible assumption) | assumption)
                have q301 : x5_1 < (l0.length : Int) := of_decide_eq_true (by first | (with_reducible assumption) | assumption)
                obtain ⟨ad301, e301, hx301_0⟩ := Kd.at_int HR0.out x5_1 p301 q301
                cases e301
                replace p301 := eq_true p301
                replace q301 := eq_true q301
                have p302 : 0 ≤ (x5_1 : Int) := of_decide_eq_true (by first | (with_reducible assumption) | assumption)
                have q302 : x5_1 < (l1.length : Int) := of_decide_eq_true (by first | (with_reducible assumption) | assumption)
                obtain ⟨ad302, e302, hx302_0⟩ := Kd.at_int HR1.out x5_1 p302 q302
                cases e302
                replace p302 := eq_true p302
                replace q302 := eq_true q302
                go_wp2
                repeat (go_quiet (fail); try go_wp2)
                go_ret
                exact ⟨by first | rfl | (simp; done) | (simp [*]; done), by repeat (first | exact Drawn0.refl _ | apply Drawn0.step)⟩
            · rw [if_neg c6] at H
              exact absurd H (by simp)
          · rw [if_neg c5] at H
            exact absurd H (by simp)
        · rw [if_neg c4] at H
          have c4b0 : decide (x5_1 < (l0.length : Int)) = false := decide_eq_false c4
          clear c4
          obtain rfl := Option.some.inj H
          go_wp2
          repeat (go_quiet (fail); try go_wp2)
          go_ret
          exact ⟨by first | rfl | (simp; done) | (simp [*]; done), by repeat (first | exact Drawn0.refl _ | apply Drawn0.step)⟩
  · rw [if_neg c3] at H
    have c3b0 : ((l0.length : Int) == (l1.length : Int)) = false := beq_eq_false_iff_ne.mpr c3
    have c3b1 : ((l0.length : Int) != (l1.length : Int)) = true := bne_iff_ne.mpr c3
    have c3b2 : (l0.length == l1.length) = false := by first | simpa using c3 | (simp at c3 ⊢; omega)
    obtain rfl := Option.some.inj H
    go_enter Try.func40, Try.ntmps40
    go_wp2
    repeat (go_quiet (fail); try go_wp2)
    go_ret
    exact ⟨by first | rfl | (simp; done) | (simp [*]; done), by repeat (first | exact Drawn0.refl _ | apply Drawn0.step)⟩

mutual
def marginaliaref23_List.l0 : Nat → Int → Int → List Int → Int → List (S42) → List ByteArray → Int → Int → Option (List Int)
  | 0, _, _, _, _, _, _, _, _ => none
  | k + 1, x1, x2, x7, x8, x304000, x304001, x304002, x304003 => if x8 < (x304000.length : Int) then (marginaliaref23_List.j1 k x1 x2 x7 x8 (decide ((x7.length : Int) < x2)) x304000 x304001 x304002 x304003) else (marginaliaref23_List.j1 k x1 x2 x7 x8 false x304000 x304001 x304002 x304003)
def marginaliaref23_List.j1 : Nat → Int → Int → List Int → Int → Bool → List (S42) → List ByteArray → Int → Int → Option (List Int)
  | 0, _, _, _, _, _, _, _, _, _ => none
  | k + 1, x1, x2, x7, x8, x20, x304000, x304001, x304002, x304003 => if x20 = true then (if 0 ≤ x8 then (if x8 < (x304000.length : Int) then (if ((rd_T42 x304000 x8).f0) ≥ x1 then (if x7.length < 17592186044416 then (marginaliaref23_List.l0 k x1 x2 (x7 ++ [(rd_T42 x304000 x8).f0]) (wrap64 (x8 + 1)) x304000 x304001 x304002 x304003) else (none)) else (marginaliaref23_List.l0 k x1 x2 x7 (wrap64 (x8 + 1)) x304000 x304001 x304002 x304003)) else (none)) else (none)) else (some x7)
end
def marginaliaref23_List.f (k : Nat) (l0_0 : List (S42)) (l0_1 : List ByteArray) (a0_2 : Int) (a0_3 : Int) (a1 : Int) (a2 : Int) : Option (List Int) := marginaliaref23_List.l0 k a1 a2 (([] : List Int)) 0 l0_0 l0_1 a0_2 a0_3
set_option maxHeartbeats 8000000 in
set_option maxRecDepth 100000 in
theorem marginaliaref23_List.calls (k : Nat) (A0_0 : Option Addr) (c0_0 : Nat) (l0_0 : List (S42)) (A0_1 : Option Addr) (c0_1 : Nat) (l0_1 : List ByteArray) (a0_2 : Int) (a0_3 : Int) (a1 : Int) (a2 : Int) (r : List Int) (w : World) (hr0_0 : Kd.C k42 w A0_0 l0_0.length l0_0) (hc0_0 : l0_0.length ≤ c0_0) (hr0_1 : Kd.C Kd.string w A0_1 l0_1.length l0_1) (hc0_1 : l0_1.length ≤ c0_1) (h : marginaliaref23_List.f k l0_0 l0_1 a0_2 a0_3 a1 a2 = some r) :
    Calls Try.prog 41 #[.agg #[.slice A0_0 l0_0.length c0_0, .slice A0_1 l0_1.length c0_1, .int .u64 a0_2, .int .u64 a0_3], .int .u64 a1, .int .i64 a2] w fun e w' => ∃ v0_ : Value, e = .returned (v0_) ∧ Kd.R (Kd.int .u64) 24 w' w.heap.size (fun _ => True) v0_ r ∧ Below w.heap.size w w' := by
  have hu58 := Try.underlying58
  have HR0_0 := Aside0.mk hr0_0
  have HC0_0 := Aside0.mk hc0_0
  clear hr0_0 hc0_0
  have HR0_1 := Aside0.mk hr0_1
  have HC0_1 := Aside0.mk hc0_1
  clear hr0_1 hc0_1
  have HB := Aside0.mk (Below.refl w.heap.size w)
  have H : (marginaliaref23_List.l0 k a1 a2 (([] : List Int)) 0 l0_0 l0_1 a0_2 a0_3) = some r := h
  clear h
  obtain ⟨y304, hy304⟩ : ∃ y_ : List Int, y_ = (([] : List Int)) := ⟨_, rfl⟩
  replace H : (marginaliaref23_List.l0 k a1 a2 y304 0 l0_0 l0_1 a0_2 a0_3) = some r := by first | (rw [hy304]; with_reducible exact H) | (have H2_ := (Option.bind_some _ _).symm.trans H; rw [hy304]; with_reducible exact H2_) | (have H2_ := (Option.bind_some _ _).symm.trans H; with_reducible exact H2_) | with_reducible exact H | (rw [hy304]; exact H) | exact H
  have Ny304 := Aside0.mk hy304
  clear hy304
  have H' := Aside0.mk H
  clear H
  go_enter Try.func41, Try.ntmps41
  go_wp2_with (first | ((with_reducible refine gate_dst (N := 3) rfl ?_); (try (refine gate_guard (by rfl) ?_; dsimp only)); refine box_event ?hg (N := 3) ?hd (cs := #[.slice A0_0 l0_0.length c0_0, .slice A0_1 l0_1.length c0_1, .int .u64 a0_2, .int .u64 a0_3]) (t := 58) ?hr ?_; (case hd => rfl); (case hg => rfl); (case hr => first | (go_simp; done) | (go_simp; rfl)); intro gb303 hg w4 hbox hb; have n0_ := Aside0.mk (below_step (by repeat (first | (with_reducible first | exact HB.out | apply below_alloc | apply pw_below_drewN | apply below_drew1) | exact HB.out)) hb); have n1_ := Aside0.mk (hbox); have n2_ := Aside0.mk ((by rw [hg]; exact (below_size (by repeat (first | (with_reducible first | exact HB.out | apply below_alloc | apply pw_below_drewN | apply below_drew1) | exact HB.out))) : w.heap.size ≤ gb303)); have n3_ := Aside0.mk ((by rw [hg]; exact (below_size (by repeat (first | (with_reducible first | exact HB.out | apply below_alloc | apply pw_below_drewN | apply below_drew1) | exact HB.out))) : w.heap.size ≤ gb303)); clear HB; have HB := n0_; have BK303 := n1_; have GW303 := n2_; have GE303 := n3_; clear n0_ n1_ n2_ n3_; clear hb hbox hg) | ((with_reducible refine gate_dst (N := 9) rfl ?_); (try (refine gate_guard (by rfl) ?_; dsimp only)); refine Kd.R_lit (Kd.int .u64) _ 24 ?hg (N := 9) ?hd (xs := ([] : List Int)) (inner := []) (ok := fun _ => True) (okp := fun _ => True) ?hr ?hp (fun _ hk => hk) trivial (Below.refl _ _) (Nat.le_refl _) (by simp) ?_; (case hd => rfl); (case hg => rfl); (case hr => first | (go_simp; done) | (go_simp; rfl)); (case hp => exact (Reps.none _ _)); intro v305 w5 ho6 hb hg_ hnew_; clear hg_ hnew_; (first | rw [← Ny304.out] at ho6 | (simp only [Int.reduceToNat] at ho6; rw [← Ny304.out] at ho6)); have n0_ := Aside0.mk (Kd.R_lower ho6 (below_size (by repeat (first | (with_reducible first | exact HB.out | apply below_alloc | apply pw_below_drewN | apply below_drew1 | refine below_set ?_ GE303.out) | exact HB.out)))); have n1_ := Aside0.mk (blk_below (g := gb303) (o := .cells #[.slice A0_0 l0_0.length c0_0, .slice A0_1 l0_1.length c0_1, .int .u64 a0_2, .int .u64 a0_3] 58 (0, 0)) (by (with_reducible repeat (first | refine blk_drewN ?_ _ | refine blk_drew ?_ | refine blk_alloc ?_ _)); exact BK303.out) hb); have n2_ := Aside0.mk (below_step (by repeat (first | (with_reducible first | exact HB.out | apply below_alloc | apply pw_below_drewN | apply below_drew1 | refine below_set ?_ GE303.out) | exact HB.out)) hb); clear BK303; clear HB; have HO306 := n0_; have BK303 := n1_; have HB := n2_; clear n0_ n1_ n2_; clear hb ho6))
  go_loopg [7, 8] k (fun kq v7 v8 w' => ∃ (x7_1 : List Int) (x8_1 : Int), v8 = .int .i64 x8_1 ∧ Aside0 (marginaliaref23_List.l0 kq a1 a2 x7_1 x8_1 l0_0 l0_1 a0_2 a0_3 = some r) ∧ Aside0 (kq ≤ k) ∧ Aside0 (Kd.R (Kd.int .u64) 24 w' w.heap.size (fun _ => True) v7 x7_1) ∧ Aside0 (w'.heap[gb303]? = some (.cells #[(.slice A0_0 l0_0.length c0_0), (.slice A0_1 l0_1.length c0_1), .int .u64 a0_2, .int .u64 a0_3] 58 (0, 0))) ∧ Aside0 (Below w.heap.size w w'))
  case atStart => exact ⟨(y304), (0), (by first | rfl | (simp; done) | (simp [*]; done)), H', ⟨Nat.le_refl _⟩, ⟨by (with_reducible repeat (first | apply Kd.R_alloc | apply Kd.R_drewN | apply Kd.R_drew)); exact HO306.out⟩, ⟨by (with_reducible repeat (first | refine blk_drewN ?_ _ | refine blk_drew ?_ | refine blk_alloc ?_ _)); exact BK303.out⟩, ⟨by repeat (first | (with_reducible first | exact HB.out | apply below_alloc | apply pw_below_drewN | apply below_drew1 | refine below_set ?_ GE303.out) | exact HB.out)⟩⟩
  case round =>
    clear H'
    try clear p2
    try clear c4
    obtain ⟨x7_1, x8_1, rfl, HA, HK1, HO_7, BK303, HB⟩ := hrel
    cases gk with
    | zero => exact absurd HA.out (by simp [marginaliaref23_List.l0])
    | succ k1 =>
      have H := HA.out
      clear HA
      simp only [marginaliaref23_List.l0] at H
      have HC7 := Aside0.mk H
      clear H
      go_upto_region 3 with (fail)
      go_cut [20] (fun v20 wc => ∃ (kq : Nat) (x20_6 : Bool), v20 = .bool x20_6 ∧ Aside0 (marginaliaref23_List.j1 kq a1 a2 x7_1 x8_1 x20_6 l0_0 l0_1 a0_2 a0_3 = some r) ∧ Aside0 (kq ≤ k1) ∧ Aside0 (Kd.R (Kd.int .u64) 24 wc w.heap.size (fun _ => True) u7 x7_1) ∧ Aside0 (wc.heap[gb303]? = some (.cells #[(.slice A0_0 l0_0.length c0_0), (.slice A0_1 l0_1.length c0_1), .int .u64 a0_2, .int .u64 a0_3] 58 (0, 0))) ∧ Aside0 (Below w.heap.size w wc))
      case first =>
        have H := HC7.out
        clear HC7
        by_cases c8 : x8_1 < (l0_0.length : Int)
        · rw [if_pos c8] at H
          have c8b0 : decide (x8_1 < (l0_0.length : Int)) = true := decide_eq_true c8
          clear c8
          (first | rw [c8b0] | (simp only [i64_w, i32_w]; rw [c8b0]) | skip)
          have H' := Aside0.mk H
          clear H
          have hcz9_0 : wr.cell? ⟨gb303, 0, none⟩ = some (.slice A0_0 l0_0.length c0_0) := (blk_cell BK303.out 0).trans rfl
          have hcz9_1 : wr.cell? ⟨gb303, 1, none⟩ = some (.slice A0_1 l0_1.length c0_1) := (blk_cell BK303.out 1).trans rfl
          have hcz9_2 : wr.cell? ⟨gb303, 2, none⟩ = some (.int .u64 a0_2) := (blk_cell BK303.out 2).trans rfl
          have hcz9_3 : wr.cell? ⟨gb303, 3, none⟩ = some (.int .u64 a0_3) := (blk_cell BK303.out 3).trans rfl
          have hfz9_0 := blk_frozen BK303.out 0
          have hfz9_1 := blk_frozen BK303.out 1
          have hfz9_2 := blk_frozen BK303.out 2
          have hfz9_3 := blk_frozen BK303.out 3
          obtain ⟨Ao10, co10, eo10⟩ := Kd.R_slice HO_7.out
          subst eo10
          go_wp2
          go_meet
          case rel => exact ⟨_, (decide ((x7_1.length : Int) < a2)), (by first | rfl | (simp; done) | (simp [*]; done)), H', ⟨by have := HK1.out; first | omega | exact Nat.le_refl _⟩, ⟨by (with_reducible repeat (first | apply Kd.R_alloc | apply Kd.R_drewN | apply Kd.R_drew)); exact HO_7.out⟩, ⟨by (with_reducible repeat (first | refine blk_drewN ?_ _ | refine blk_drew ?_ | refine blk_alloc ?_ _)); exact BK303.out⟩, ⟨by repeat (first | (with_reducible first | exact HB.out | apply below_alloc | apply pw_below_drewN | apply below_drew1 | refine below_set ?_ GE303.out) | exact HB.out)⟩⟩
        · rw [if_neg c8] at H
          have c8b0 : decide (x8_1 < (l0_0.length : Int)) = false := decide_eq_false c8
          clear c8
          (first | rw [c8b0] | (simp only [i64_w, i32_w]; rw [c8b0]) | skip)
          have H' := Aside0.mk H
          clear H
          have hcz11_0 : wr.cell? ⟨gb303, 0, none⟩ = some (.slice A0_0 l0_0.length c0_0) := (blk_cell BK303.out 0).trans rfl
          have hcz11_1 : wr.cell? ⟨gb303, 1, none⟩ = some (.slice A0_1 l0_1.length c0_1) := (blk_cell BK303.out 1).trans rfl
          have hcz11_2 : wr.cell? ⟨gb303, 2, none⟩ = some (.int .u64 a0_2) := (blk_cell BK303.out 2).trans rfl
          have hcz11_3 : wr.cell? ⟨gb303, 3, none⟩ = some (.int .u64 a0_3) := (blk_cell BK303.out 3).trans rfl
          have hfz11_0 := blk_frozen BK303.out 0
          have hfz11_1 := blk_frozen BK303.out 1
          have hfz11_2 := blk_frozen BK303.out 2
          have hfz11_3 := blk_frozen BK303.out 3
          go_wp2
          go_meet
          case rel => exact ⟨_, (false), (by first | rfl | (simp; done) | (simp [*]; done)), H', ⟨by have := HK1.out; first | omega | exact Nat.le_refl _⟩, ⟨by (with_reducible repeat (first | apply Kd.R_alloc | apply Kd.R_drewN | apply Kd.R_drew)); exact HO_7.out⟩, ⟨by (with_reducible repeat (first | refine blk_drewN ?_ _ | refine blk_drew ?_ | refine blk_alloc ?_ _)); exact BK303.out⟩, ⟨by repeat (first | (with_reducible first | exact HB.out | apply below_alloc | apply pw_below_drewN | apply below_drew1 | refine below_set ?_ GE303.out) | exact HB.out)⟩⟩
      case rest =>
        clear HC7
        try clear p2
        try clear c4
        try clear c8
        try clear c8b0
        try clear hcz11_0
        try clear hcz11_1
        try clear hcz11_2
        try clear hcz11_3
        try clear hcz9_0
        try clear hcz9_1
        try clear hcz9_2
        try clear hcz9_3
        try clear hfz11_0
        try clear hfz11_1
        try clear hfz11_2
        try clear hfz11_3
        try clear hfz9_0
        try clear hfz9_1
        try clear hfz9_2
        try clear hfz9_3
        try clear p2
        obtain ⟨kq, x20_6, rfl, HA, HJ6, HO_7, BK303, HB⟩ := hcut
        cases kq with
        | zero => exact absurd HA.out (by simp [marginaliaref23_List.j1])
        | succ kj6 =>
          have H := HA.out
          clear HA
          simp only [marginaliaref23_List.j1] at H
          by_cases c12 : x20_6 = true
          · subst c12
            have H1 : (if 0 ≤ x8_1 then (if x8_1 < (l0_0.length : Int) then (if ((rd_T42 l0_0 x8_1).f0) ≥ a1 then (if x7_1.length < 17592186044416 then (marginaliaref23_List.l0 kj6 a1 a2 (x7_1 ++ [(rd_T42 l0_0 x8_1).f0]) (wrap64 (x8_1 + 1)) l0_0 l0_1 a0_2 a0_3) else (none)) else (marginaliaref23_List.l0 kj6 a1 a2 x7_1 (wrap64 (x8_1 + 1)) l0_0 l0_1 a0_2 a0_3)) else (none)) else (none)) = some r := by rw [if_pos rfl] at H; exact H
            clear H
            have H := H1
            clear H1
            by_cases c13 : 0 ≤ x8_1
            · rw [if_pos c13] at H
              have c13b0 : decide (0 ≤ x8_1) = true := decide_eq_true c13
              clear c13
              by_cases c14 : x8_1 < (l0_0.length : Int)
              · rw [if_pos c14] at H
                have c14b0 : decide (x8_1 < (l0_0.length : Int)) = true := decide_eq_true c14
                clear c14
                by_cases c15 : ((rd_T42 l0_0 x8_1).f0) ≥ a1
                · rw [if_pos c15] at H
                  have c15b0 : decide (a1 ≤ ((rd_T42 l0_0 x8_1).f0)) = true := decide_eq_true c15
                  clear c15
                  by_cases c16 : x7_1.length < 17592186044416
                  · rw [if_pos c16] at H
                    have LMc16 := Aside0.mk c16
                    clear c16
                    obtain ⟨y309, hy309⟩ : ∃ y_ : List Int, y_ = (x7_1 ++ [(rd_T42 l0_0 x8_1).f0]) := ⟨_, rfl⟩
                    replace H : (marginaliaref23_List.l0 kj6 a1 a2 y309 (wrap64 (x8_1 + 1)) l0_0 l0_1 a0_2 a0_3) = some r := by first | (rw [hy309]; with_reducible exact H) | (have H2_ := (Option.bind_some _ _).symm.trans H; rw [hy309]; with_reducible exact H2_) | (have H2_ := (Option.bind_some _ _).symm.trans H; with_reducible exact H2_) | with_reducible exact H | (rw [hy309]; exact H) | exact H
                    have Ny309 := Aside0.mk hy309
                    clear hy309
                    have H' := Aside0.mk H
                    clear H
                    have hcz17_0 : wc.cell? ⟨gb303, 0, none⟩ = some (.slice A0_0 l0_0.length c0_0) := (blk_cell BK303.out 0).trans rfl
                    have hcz17_1 : wc.cell? ⟨gb303, 1, none⟩ = some (.slice A0_1 l0_1.length c0_1) := (blk_cell BK303.out 1).trans rfl
                    have hcz17_2 : wc.cell? ⟨gb303, 2, none⟩ = some (.int .u64 a0_2) := (blk_cell BK303.out 2).trans rfl
                    have hcz17_3 : wc.cell? ⟨gb303, 3, none⟩ = some (.int .u64 a0_3) := (blk_cell BK303.out 3).trans rfl
                    have hfz17_0 := blk_frozen BK303.out 0
                    have hfz17_1 := blk_frozen BK303.out 1
                    have hfz17_2 := blk_frozen BK303.out 2
                    have hfz17_3 := blk_frozen BK303.out 3
                    have p307 : 0 ≤ (x8_1 : Int) := of_decide_eq_true (by first | (with_reducible assumption) | assumption)
                    have q307 : x8_1 < (l0_0.length : Int) := of_decide_eq_true (by first | (with_reducible assumption) | assumption)
                    obtain ⟨ad307, e307, hx307_0, hx307_1, hx307_2⟩ := at_T42 HR0_0.out x8_1 p307 q307
                    cases e307
                    replace hx307_0 := (HB.out.cell (World.block_lt_of_cell? w _ hx307_0)).trans hx307_0
                    replace hx307_1 := (HB.out.cell (World.block_lt_of_cell? w _ hx307_1)).trans hx307_1
                    replace hx307_2 := (HB.out.cell (World.block_lt_of_cell? w _ hx307_2)).trans hx307_2
                    replace p307 := eq_true p307
                    replace q307 := eq_true q307
                    have p308 : 0 ≤ (x8_1 : Int) := of_decide_eq_true (by first | (with_reducible assumption) | assumption)
                    have q308 : x8_1 < (l0_0.length : Int) := of_decide_eq_true (by first | (with_reducible assumption) | assumption)
                    obtain ⟨ad308, e308, hx308_0, hx308_1, hx308_2⟩ := at_T42 HR0_0.out x8_1 p308 q308
                    obtain rfl : ad307 = ad308 := (by injection e308)
                    replace hx308_0 := (HB.out.cell (World.block_lt_of_cell? w _ hx308_0)).trans hx308_0
                    replace hx308_1 := (HB.out.cell (World.block_lt_of_cell? w _ hx308_1)).trans hx308_1
                    replace hx308_2 := (HB.out.cell (World.block_lt_of_cell? w _ hx308_2)).trans hx308_2
                    replace p308 := eq_true p308
                    replace q308 := eq_true q308
                    go_wp2_with (first | ((with_reducible refine gate_builtin (b := .append) (xs := #[.tmp 31, .tmp 38]) rfl ?_); (try (refine gate_guard (by rfl) ?_; dsimp only)); at_builtin; refine Kd.R_append (Kd.int .u64) (w0 := w) w.heap.size rfl (.tmp 31) (.tmp 38) 39 24 (.int .u64 0) 8 rfl Try.underlying39 info24 rfl (by decide) (by omega) u7 x7_1 ((rd_T42 l0_0 x8_1).f0) [.int .u64 ((rd_T42 l0_0 x8_1).f0)] (fun _ => True) (fun _ => False) rfl rfl ?aP (fun _ hk => hk.elim) ?aF ?aO ?aB ?aS ?aL ?_; (case aP => exact rfl); (case aB => exact (by repeat (first | (with_reducible first | exact HB.out | apply below_alloc | apply pw_below_drewN | apply below_drew1 | refine below_set ?_ GE303.out) | exact HB.out))); (case aF => exact (fun _ _ => trivial)); (case aO => exact (by (with_reducible repeat (first | apply Kd.R_alloc | apply Kd.R_drewN | apply Kd.R_drew)); exact HO_7.out)); (case aS => exact (below_size (by repeat (first | (with_reducible first | exact HB.out | apply below_alloc | apply pw_below_drewN | apply below_drew1 | refine below_set ?_ GE303.out) | exact HB.out)))); (case aL => have := LMc16.out; omega); intro v310 w18 ho hb hg hat; rw [← Ny309.out] at ho; have n0_ := Aside0.mk (blk_grown (g := gb303) (o := .cells #[.slice (some ad307) l0_0.length c0_0, .slice A0_1 l0_1.length c0_1, .int .u64 a0_2, .int .u64 a0_3] 58 (0, 0)) (by (with_reducible repeat (first | refine blk_drewN ?_ _ | refine blk_drew ?_ | refine blk_alloc ?_ _)); exact BK303.out) hg (Kd.R_ne HO_7.out BK303.out (by decide))); have n1_ := Aside0.mk (hb); have n2_ := Aside0.mk (ho); clear BK303; clear HB; clear HO_7; have BK303 := n0_; have HB := n1_; have HO311 := n2_; clear n0_ n1_ n2_; clear ho hb hg hat))
                    go_roundg kj6
                    case measure => have := HK1.out; have := HJ6.out; omega
                    case rel => exact ⟨(y309), (wrap64 (x8_1 + 1)), (by first | rfl | (simp; done) | (simp [*]; done)), H', ⟨by have := HK1.out; have := HJ6.out; omega⟩, ⟨by (with_reducible repeat (first | apply Kd.R_alloc | apply Kd.R_drewN | apply Kd.R_drew)); exact HO311.out⟩, ⟨by (with_reducible repeat (first | refine blk_drewN ?_ _ | refine blk_drew ?_ | refine blk_alloc ?_ _)); exact BK303.out⟩, ⟨by repeat (first | (with_reducible first | exact HB.out | apply below_alloc | apply pw_below_drewN | apply below_drew1 | refine below_set ?_ GE303.out) | exact HB.out)⟩⟩
                  · rw [if_neg c16] at H
                    exact absurd H (by simp)
                · rw [if_neg c15] at H
                  have c15b0 : decide (a1 ≤ ((rd_T42 l0_0 x8_1).f0)) = false := decide_eq_false c15
                  clear c15
                  have H' := Aside0.mk H
                  clear H
                  have hcz19_0 : wc.cell? ⟨gb303, 0, none⟩ = some (.slice A0_0 l0_0.length c0_0) := (blk_cell BK303.out 0).trans rfl
                  have hcz19_1 : wc.cell? ⟨gb303, 1, none⟩ = some (.slice A0_1 l0_1.length c0_1) := (blk_cell BK303.out 1).trans rfl
                  have hcz19_2 : wc.cell? ⟨gb303, 2, none⟩ = some (.int .u64 a0_2) := (blk_cell BK303.out 2).trans rfl
                  have hcz19_3 : wc.cell? ⟨gb303, 3, none⟩ = some (.int .u64 a0_3) := (blk_cell BK303.out 3).trans rfl
                  have hfz19_0 := blk_frozen BK303.out 0
                  have hfz19_1 := blk_frozen BK303.out 1
                  have hfz19_2 := blk_frozen BK303.out 2
                  have hfz19_3 := blk_frozen BK303.out 3
                  have p307 : 0 ≤ (x8_1 : Int) := of_decide_eq_true (by first | (with_reducible assumption) | assumption)
                  have q307 : x8_1 < (l0_0.length : Int) := of_decide_eq_true (by first | (with_reducible assumption) | assumption)
                  obtain ⟨ad307, e307, hx307_0, hx307_1, hx307_2⟩ := at_T42 HR0_0.out x8_1 p307 q307
                  cases e307
                  replace hx307_0 := (HB.out.cell (World.block_lt_of_cell? w _ hx307_0)).trans hx307_0
                  replace hx307_1 := (HB.out.cell (World.block_lt_of_cell? w _ hx307_1)).trans hx307_1
                  replace hx307_2 := (HB.out.cell (World.block_lt_of_cell? w _ hx307_2)).trans hx307_2
                  replace p307 := eq_true p307
                  replace q307 := eq_true q307
                  go_wp2
                  go_roundg kj6
                  case measure => have := HK1.out; have := HJ6.out; omega
                  case rel => exact ⟨(x7_1), (wrap64 (x8_1 + 1)), (by first | rfl | (simp; done) | (simp [*]; done)), H', ⟨by have := HK1.out; have := HJ6.out; omega⟩, ⟨by (with_reducible repeat (first | apply Kd.R_alloc | apply Kd.R_drewN | apply Kd.R_drew)); exact HO_7.out⟩, ⟨by (with_reducible repeat (first | refine blk_drewN ?_ _ | refine blk_drew ?_ | refine blk_alloc ?_ _)); exact BK303.out⟩, ⟨by repeat (first | (with_reducible first | exact HB.out | apply below_alloc | apply pw_below_drewN | apply below_drew1 | refine below_set ?_ GE303.out) | exact HB.out)⟩⟩
              · rw [if_neg c14] at H
                exact absurd H (by simp)
            · rw [if_neg c13] at H
              exact absurd H (by simp)
          · replace c12 := Bool.eq_false_iff.mpr c12
            subst c12
            have H1 : (some x7_1) = some r := by rw [if_neg (show ¬ (false = true) by decide)] at H; exact H
            clear H
            have H := H1
            clear H1
            obtain rfl := Option.some.inj H
            go_wp2
            go_ret
            exact ⟨_, by first | rfl | (simp [errW_none, errW_some] <;> rfl) | (simp [*, errW_none, errW_some] <;> rfl), by (with_reducible repeat (first | apply Kd.R_alloc | apply Kd.R_drewN | apply Kd.R_drew)); exact HO_7.out, by repeat (first | (with_reducible first | exact HB.out | apply below_alloc | apply pw_below_drewN | apply below_drew1 | refine below_set ?_ GE303.out) | exact HB.out)⟩

def marginaliaref16_Put.l0 : Nat → List Int → Int → Int → Option (List Int)
  | 0, _, _, _ => none
  | k + 1, x0, x1, x7 => if x7 ≥ 0 then (if 0 ≤ (IntKind.u64.wrap (wrap64 (8 * x7))) then (if x0.length < 140737488355328 then (marginaliaref16_Put.l0 k (x0 ++ [(shr .u64 x1 (IntKind.u64.wrap (wrap64 (8 * x7)))) % 256]) x1 (wrap64 (x7 - 1))) else (none)) else (none)) else (some x0)
def marginaliaref16_Put.f (k : Nat) (l0 : List Int) (a1 : Int) (a2 : Int) : Option (List Int) := marginaliaref16_Put.l0 k l0 a1 (wrap64 (a2 - 1))
set_option maxHeartbeats 8000000 in
set_option maxRecDepth 100000 in
theorem marginaliaref16_Put.calls (k : Nat) (P0_ : Nat → Prop) (u9000_ : Value) (l0 : List Int) (a1 : Int) (a2 : Int) (r : List Int) (w0 w : World) (hB : Below w0.heap.size w0 w) (ho0 : Kd.R (Kd.int .u8) 5 w w0.heap.size P0_ u9000_ l0) (h : marginaliaref16_Put.f k l0 a1 a2 = some r) :
    Calls Try.prog 48 #[u9000_, .int .u64 a1, .int .i64 a2] w fun e w' => ∃ v0_ : Value, e = .returned (v0_) ∧ Kd.R (Kd.int .u8) 5 w' w0.heap.size (fun k_ => (P0_ k_ ∨ w.heap.size ≤ k_)) v0_ r ∧ Below w0.heap.size w0 w' ∧ Kept w w' (fun k_ => P0_ k_) := by
  have HO0 := Aside0.mk (show Kd.R (Kd.int .u8) 5 w w0.heap.size (fun k_ => (P0_ k_ ∨ w.heap.size ≤ k_)) u9000_ l0 from Kd.R_mono ho0 (fun k_ hk => (.inl hk)))
  have HK := Aside0.mk (Kept.refl w (fun k_ => P0_ k_))
  have HW0 := Aside0.mk hB.size
  have HB := Aside0.mk hB
  clear hB
  have H : (marginaliaref16_Put.l0 k l0 a1 (wrap64 (a2 - 1))) = some r := h
  clear h
  have H' := Aside0.mk H
  clear H
  go_enter Try.func48, Try.ntmps48
  go_wp2
  go_loopg [0, 7] k (fun kq v0 v7 w' => ∃ (x0_1 : List Int) (x7_1 : Int), v7 = .int .i64 x7_1 ∧ Aside0 (marginaliaref16_Put.l0 kq x0_1 a1 x7_1 = some r) ∧ Aside0 (kq ≤ k) ∧ Aside0 (Kd.R (Kd.int .u8) 5 w' w0.heap.size (fun k_ => (P0_ k_ ∨ w.heap.size ≤ k_)) v0 x0_1) ∧ Aside0 (Kept w w' (fun k_ => P0_ k_)) ∧ Aside0 (Below w0.heap.size w0 w'))
  case atStart => exact ⟨(l0), (wrap64 (a2 - 1)), (by first | rfl | (simp; done) | (simp [*]; done)), H', ⟨Nat.le_refl _⟩, ⟨by (with_reducible repeat (first | apply Kd.R_alloc | apply Kd.R_drewN | apply Kd.R_drew)); exact HO0.out⟩, ⟨by repeat (first | (with_reducible first | exact HK.out | apply Kept.alloc | apply Kept.drewN | apply Kept.drew) | exact HK.out)⟩, ⟨by repeat (first | (with_reducible first | exact HB.out | apply below_alloc | apply pw_below_drewN | apply below_drew1) | exact HB.out)⟩⟩
  case round =>
    clear H'
    try clear p2
    obtain ⟨x0_1, x7_1, rfl, HA, HK1, HO_0, HK, HB⟩ := hrel
    cases gk with
    | zero => exact absurd HA.out (by simp [marginaliaref16_Put.l0])
    | succ k1 =>
      have H := HA.out
      clear HA
      simp only [marginaliaref16_Put.l0] at H
      by_cases c4 : x7_1 ≥ 0
      · rw [if_pos c4] at H
        have c4b0 : decide (0 ≤ x7_1) = true := decide_eq_true c4
        clear c4
        obtain ⟨ji5, hji5⟩ : ∃ j_ : Int, (IntKind.u64.wrap (wrap64 (8 * x7_1))) = j_ := ⟨_, rfl⟩
        replace H : (if 0 ≤ (ji5) then (if x0_1.length < 140737488355328 then (marginaliaref16_Put.l0 k1 (x0_1 ++ [(shr .u64 a1 (ji5)) % 256]) a1 (wrap64 (x7_1 - 1))) else (none)) else (none)) = some r := by first | (rw [hji5] at H; exact H) | (simp only [hji5] at H ⊢; exact H)
        by_cases c6 : 0 ≤ (ji5)
        · rw [if_pos c6] at H
          have c6b0 := eq_true c6
          have c6b1 : decide (0 ≤ (ji5)) = true := decide_eq_true c6
          clear c6
          obtain ⟨ji7, hji7⟩ : ∃ j_ : Int, (shr .u64 a1 (ji5)) = j_ := ⟨_, rfl⟩
          replace H : (if x0_1.length < 140737488355328 then (marginaliaref16_Put.l0 k1 (x0_1 ++ [(ji7) % 256]) a1 (wrap64 (x7_1 - 1))) else (none)) = some r := by first | (rw [hji7] at H; exact H) | (simp only [hji7] at H ⊢; exact H)
          have hji7_ : (a1 / 2 ^ min (ji5).toNat 64) = ji7 := hji7
          have hji7z : (ji5) ≤ 64 → (a1 / 2 ^ (ji5).toNat) = ji7 := shr_small hji7
          by_cases c8 : x0_1.length < 140737488355328
          · rw [if_pos c8] at H
            have LMc8 := Aside0.mk c8
            clear c8
            obtain ⟨y312, hy312⟩ : ∃ y_ : List Int, y_ = (x0_1 ++ [(ji7) % 256]) := ⟨_, rfl⟩
            replace H : (marginaliaref16_Put.l0 k1 y312 a1 (wrap64 (x7_1 - 1))) = some r := by first | (rw [hy312]; with_reducible exact H) | (have H2_ := (Option.bind_some _ _).symm.trans H; rw [hy312]; with_reducible exact H2_) | (have H2_ := (Option.bind_some _ _).symm.trans H; with_reducible exact H2_) | with_reducible exact H | (rw [hy312]; exact H) | exact H
            have Ny312 := Aside0.mk hy312
            clear hy312
            have H' := Aside0.mk H
            clear H
            go_wp2_with (first | ((with_reducible refine gate_builtin (b := .append) (xs := #[.tmp 14, .tmp 21]) rfl ?_); at_builtin; refine Kd.R_append (Kd.int .u8) (w0 := w0) w0.heap.size rfl (.tmp 14) (.tmp 21) 50 5 (.int .u8 0) 1 rfl Try.underlying50 info5 rfl (by decide) (by omega) u0 x0_1 ((ji7) % 256) [.int .u8 ((ji7) % 256)] (fun k_ => (P0_ k_ ∨ w.heap.size ≤ k_)) (fun _ => False) rfl rfl ?aP (fun _ hk => hk.elim) ?aF ?aO ?aB ?aS ?aL ?_; (case aP => exact rfl); (case aB => exact (by repeat (first | (with_reducible first | exact HB.out | apply below_alloc | apply pw_below_drewN | apply below_drew1) | exact HB.out))); (case aF => exact (fun k_ hk => (.inr (Nat.le_trans (by first | exact HK.out.1 | exact (show Kept w _ (fun k_ => P0_ k_) from by repeat (first | (with_reducible first | exact HK.out | apply Kept.alloc | apply Kept.drewN | apply Kept.drew) | exact HK.out)).1) hk)))); (case aO => exact (by (with_reducible repeat (first | apply Kd.R_alloc | apply Kd.R_drewN | apply Kd.R_drew)); exact HO_0.out)); (case aS => exact (below_size (by repeat (first | (with_reducible first | exact HB.out | apply below_alloc | apply pw_below_drewN | apply below_drew1) | exact HB.out)))); (case aL => have := LMc8.out; omega); intro v313 w9 ho hb hg hat; rw [← Ny312.out] at ho; have n0_ := Aside0.mk (hb); have n1_ := Aside0.mk (Kept.of_grown (S := (fun k_ => P0_ k_)) hg (by repeat (first | (with_reducible first | exact HK.out | apply Kept.alloc | apply Kept.drewN | apply Kept.drew) | exact HK.out)) (fun k_ e_ => (HO_0.out.1 k_ e_))); have n2_ := Aside0.mk (ho); clear HB; clear HK; clear HO_0; have HB := n0_; have HK := n1_; have HO314 := n2_; clear n0_ n1_ n2_; clear ho hb hg hat))
            go_roundg k1
            case measure => have := HK1.out; omega
            case rel => exact ⟨(y312), (wrap64 (x7_1 - 1)), (by first | rfl | (simp; done) | (simp [*]; done)), H', ⟨by have := HK1.out; omega⟩, ⟨by (with_reducible repeat (first | apply Kd.R_alloc | apply Kd.R_drewN | apply Kd.R_drew)); exact HO314.out⟩, ⟨by repeat (first | (with_reducible first | exact HK.out | apply Kept.alloc | apply Kept.drewN | apply Kept.drew) | exact HK.out)⟩, ⟨by repeat (first | (with_reducible first | exact HB.out | apply below_alloc | apply pw_below_drewN | apply below_drew1) | exact HB.out)⟩⟩
          · rw [if_neg c8] at H
            exact absurd H (by simp)
        · rw [if_neg c6] at H
          exact absurd H (by simp)
      · rw [if_neg c4] at H
        have c4b0 : decide (0 ≤ x7_1) = false := decide_eq_false c4
        clear c4
        obtain rfl := Option.some.inj H
        go_wp2
        go_ret
        exact ⟨_, by first | rfl | (simp [errW_none, errW_some] <;> rfl) | (simp [*, errW_none, errW_some] <;> rfl), by (with_reducible repeat (first | apply Kd.R_alloc | apply Kd.R_drewN | apply Kd.R_drew)); exact HO_0.out, by repeat (first | (with_reducible first | exact HB.out | apply below_alloc | apply pw_below_drewN | apply below_drew1) | exact HB.out), by repeat (first | (with_reducible first | exact HK.out | apply Kept.alloc | apply Kept.drewN | apply Kept.drew) | exact HK.out)⟩

end Go.Proofs.Ytjfkenjmjoncbaa.PAll

end
