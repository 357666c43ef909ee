import Derived.Test.YtjfkenjmjoncbaaPAllx0
import Derived.Test.YtjfkenjmjoncbaaLgList
import Derived.Test.YtjfkenjmjoncbaaLgGood
import Derived.Test.YtjfkenjmjoncbaaLgStays
import Derived.Deep.RegionHeld3
namespace Go.Proofs.Ytjfkenjmjoncbaa.Lg
open Go Go.Maps Go.WideShapes Go.RowKit Go.Proofs.Ytjfkenjmjoncbaa.PAll Go.Proofs.YtjfkenjmjoncbaaW.PrintWords Go.Proofs.YtjfkenjmjoncbaaW.PrintLast Go.Proofs.YtjfkenjmjoncbaaW.PrintMore
set_option linter.unusedVariables false
set_option linter.unusedSimpArgs false

theorem play_good {rs : List RC} (hg : ∀ r ∈ rs, r.Wf) : (play LG.empty rs).Good :=
  play_ind (P := LG.Good) (G := RC.Wf) (fun L r h hr => LG.apply_good h hr) rs LG.empty LG.empty_good hg
theorem list_all {L : LG} (h : L.Ok) (hl : L.posts.length ≤ 1000) : L.listS 0 1000 = L.posts.map LP.id := by
  have e : below (L.posts.map LP.id) 0 = 0 := by
    unfold below
    rw [List.length_eq_zero_iff, List.filter_eq_nil_iff]
    intro x hx
    obtain ⟨p, hp, rfl⟩ := List.mem_map.1 hx
    have := h.ids p hp
    simp
    omega
  unfold LG.listS
  rw [e, List.drop_zero, List.take_of_length_le (by simp; omega)]
theorem at_id {l : List LP} {J : Int} (h0 : 0 ≤ J) (h1 : J < l.length) : ∃ p, p ∈ l ∧ rd (l.map LP.id) J = p.id ∧ l[J.toNat]? = some p := by
  have hj : J.toNat < l.length := by omega
  refine ⟨l[J.toNat], List.getElem_mem hj, ?_, by simp [hj]⟩
  unfold rd
  rw [List.getD_eq_getElem?_getD, List.getElem?_map, List.getElem?_eq_getElem hj]
  rfl
theorem cntV_take {v : Int} {l : List LP} {p : LP} {j : Nat} (h : l[j]? = some p) : cntV v (l.take (j + 1)) = cntV v (l.take j) + (if p.ver = v then 0 else 1) := by
  unfold cntV
  rw [List.take_add_one, h, List.filter_append, List.length_append]
  congr 1
  by_cases c : p.ver = v
  · simp [c]
  · simp [c]
theorem cntV_le (v : Int) (l : List LP) : cntV v l ≤ l.length := List.length_filter_le _ _
theorem status_cur (W : World) (L : LG) : (Instr.field 37 (.agg #[.int .u64 L.next, .int .u64 L.newest, .int .i64 L.posts.length, .int .u64 L.cur]) 3).run Try.prog W = .ok (.int .u64 L.cur) W := by kernel_rfl
theorem status_posts (W : World) (L : LG) : (Instr.field 37 (.agg #[.int .u64 L.next, .int .u64 L.newest, .int .i64 L.posts.length, .int .u64 L.cur]) 2).run Try.prog W = .ok (.int .i64 L.posts.length) W := by kernel_rfl
theorem get_of {L : LG} (h : L.Ok) {p : LP} (hp : p ∈ L.posts) : L.get p.id = p ∧ L.is p.id = true := by
  unfold LG.get LG.is
  rw [h.rise.find hp]
  exact ⟨rfl, (any_mem _ _).2 ⟨p, hp, rfl⟩⟩
set_option maxHeartbeats 4000000 in
set_option maxRecDepth 100000 in
theorem swept_long {w : World} {A0 : Option Addr} {c0 : Nat} {l0 : List RC} (hC : Kd.C kRC w A0 l0.length l0) (hc : l0.length ≤ c0) (hm : l0.length ≤ maxLen) (hg : ∀ r ∈ l0, r.Wf) {text : ByteArray} (ht : 300 < text.size) :
    Calls Try.prog 4 #[.slice A0 l0.length c0, .string text] w fun e w' => e = .returned (.bool true) ∧ Below w.heap.size w w' := by
  have HC := Aside0.mk hC
  have HG := Aside0.mk hg
  have HM := Aside0.mk hm
  have HCC := Aside0.mk hc
  have ct : decide (300 < (text.size : Int)) = true := decide_eq_true (by omega)
  clear hC hc hm hg ht
  go_enter Try.func4, Try.ntmps4
  go_wp2_with (go_at_call 8; refine (played_calls HC.out HCC.out HM.out HG.out).mono ?_; rintro e w4 ⟨g, b, v, rfl, hL, hb⟩; have HB4 := Aside0.mk hb; clear hL hb)
  go_ret
  exact ⟨rfl, HB4.out⟩
set_option maxHeartbeats 8000000 in
set_option maxRecDepth 100000 in
theorem swept_short {w : World} {A0 : Option Addr} {c0 : Nat} {l0 : List RC} (hC : Kd.C kRC w A0 l0.length l0) (hc : l0.length ≤ c0) (hm : l0.length ≤ maxLen) (hg : ∀ r ∈ l0, r.Wf) {text : ByteArray} (ht : ¬ 300 < text.size) :
    Calls Try.prog 4 #[.slice A0 l0.length c0, .string text] w fun e w' => e = .returned (.bool true) ∧ Below w.heap.size w w' := by
  have HC := Aside0.mk hC
  have HG := Aside0.mk hg
  have HM := Aside0.mk hm
  have HCC := Aside0.mk hc
  have HT := Aside0.mk (show text.size ≤ 300 by omega)
  have ct : decide (300 < (text.size : Int)) = false := decide_eq_false (by omega)
  have HGD := Aside0.mk (play_good (rs := l0.take 50) (fun r h => hg r (List.mem_of_mem_take h)))
  generalize hLL : play LG.empty (l0.take 50) = L at HGD
  have HLL := Aside0.mk hLL
  obtain ⟨ids, hids⟩ : ∃ ids, L.posts.map LP.id = ids := ⟨_, rfl⟩
  have HIDS := Aside0.mk hids
  have HIL := Aside0.mk (show ids.length = L.posts.length by rw [← hids]; simp)
  clear hC hc hm hg ht hLL hids
  go_enter Try.func4, Try.ntmps4
  go_wp2_with (first
    | (go_at_call 8; refine (played_calls HC.out HCC.out HM.out HG.out).mono ?_; rintro e w1 ⟨g, b, v, rfl, hL, hb⟩; rw [HLL.out] at hL; have HL1 := Aside0.mk hL; have HB1 := Aside0.mk hb; have HPL := Aside0.mk (show L.posts.length ≤ 50 from hL.len); clear hL hb)
    | (go_at_call 13; (with_reducible refine (Status_calls HL1.out).mono ?_); rintro e w2 ⟨rfl, hb⟩; have HB2 := Aside0.mk (below_alloc hb (.cells #[.int .u64 L.next, .int .u64 L.newest, .int .i64 L.posts.length, .int .u64 L.cur] 37)); have HZ2 := Aside0.mk hb.size; have BS2 := Aside0.mk (blk_new w2 (.cells #[.int .u64 L.next, .int .u64 L.newest, .int .i64 L.posts.length, .int .u64 L.cur] 37)); clear hb)
    | (go_at_call 14; (with_reducible refine (List_calls (HL1.out.below HB2.out) (by omega) 0 1000 (by decide)).mono ?_); rintro e w3 ⟨u3, rfl, hV, hb⟩; rw [list_all HGD.out.ok (by have := HPL.out; omega), HIDS.out] at hV; have HV3 := Aside0.mk hV; have HB3 := Aside0.mk (HB2.out.trans (hb.mono HB2.out.size)); have BS3 := Aside0.mk (blk_below BS2.out hb); (obtain ⟨A3, c3, e3⟩ := Kd.V_slice hV); subst e3; clear hV hb))
  have HS3 := Aside0.mk (blk_lt BS3.out)
  generalize w2.heap.size = N6 at BS3 HS3 HZ2 HB2 HB3 HV3 BS2 ⊢
  have HL3 := Aside0.mk (HL1.out.below HB3.out)
  have HZ3 := Aside0.mk HB3.out.size
  have HB03 := Aside0.mk (HB1.out.trans (HB3.out.mono HB1.out.size))
  have HV := Aside0.mk (Kd.V_mono (ok' := fun k => w1.heap.size ≤ k ∧ k < w3.heap.size) HV3.out (fun k hk => ⟨Nat.le_trans HB2.out.size hk.1, hk.2⟩))
  clear HB2 BS2 HV3 HB3 HB1
  go_loopg [8, 9] ids.length (fun kq v8 v9 wr => ∃ J : Int, v9 = .int .i64 J ∧ v8 = .int .i64 (cntV L.newest (L.posts.take J.toNat) : Int) ∧ Aside0 (0 ≤ J ∧ J + kq = ids.length) ∧ Aside0 (Below w3.heap.size w3 wr))
  case atStart => exact ⟨0, rfl, rfl, ⟨by omega⟩, ⟨Below.refl _ _⟩⟩
  case round =>
    obtain ⟨J, rfl, rfl, HJ, HB⟩ := hrel
    by_cases c1 : J < ids.length
    · have c1b : decide (J < (ids.length : Int)) = true := decide_eq_true c1
      have q0 := eq_true HJ.out.1
      have q1 := eq_true c1
      obtain ⟨p, hpm, hpi, hpj⟩ := at_id HJ.out.1 (by have := HIL.out; omega : J < L.posts.length)
      rw [HIDS.out] at hpi
      obtain ⟨ad, ea, hx⟩ := Kd.at_int (Kd.V_reads' (Kd.V_below HV.out HB.out)).2.2 J HJ.out.1 c1
      subst ea
      rw [hpi] at hx
      have HX := Aside0.mk hx
      have HLr := Aside0.mk (HL3.out.below HB.out)
      obtain ⟨g1, g2⟩ := get_of HGD.out.ok hpm
      have HG1 := Aside0.mk g1
      have HG2 := Aside0.mk g2
      have HPI := Aside0.mk (HGD.out.ok.ids p hpm)
      have HPV := Aside0.mk (HGD.out.vers p hpm)
      have HPN := Aside0.mk (HGD.out.ids p hpm)
      have HPO := Aside0.mk (HGD.out.old p hpm)
      have HPJ := Aside0.mk hpj
      clear g1 g2 hpm hpi hpj c1
      go_wp2_with (go_at_call 15; (with_reducible refine (Get_calls HLr.out (id := p.id) ?s1).mono ?_); (case s1 => have := HPI.out; omega); rintro e wG ⟨rfl, hb⟩; rw [HG1.out, HG2.out]; unfold postV; have HBG := Aside0.mk (HB.out.trans (hb.mono HB.out.size)); have HXG := Aside0.mk ((hb.cell (World.block_lt_of_cell? _ _ HX.out)).trans HX.out); clear hb hx)
      have BK := Aside0.mk (blk_new wG (.cells #[.int .u64 p.id, .int .u64 p.ver, .string p.text] 42))
      have HBA := Aside0.mk (below_alloc HBG.out (.cells #[.int .u64 p.id, .int .u64 p.ver, .string p.text] 42))
      have hx : (wG.alloc (.cells #[.int .u64 p.id, .int .u64 p.ver, .string p.text] 42)).cell? (ad.add J.toNat) = some (.int .u64 p.id) := ((below_alloc (Below.refl wG.heap.size wG) _).cell (World.block_lt_of_cell? _ _ HXG.out)).trans HXG.out
      have bk6 := blk_below BS3.out HBA.out
      generalize wG.heap.size = N10 at BK ⊢
      generalize wG.alloc (.cells #[.int .u64 p.id, .int .u64 p.ver, .string p.text] 42) = W10 at BK HBA hx bk6 ⊢
      have k0 : W10.cell? ⟨N10, 0, none⟩ = some (.int .u64 p.id) := (blk_cell BK.out 0).trans rfl
      have k1 : W10.cell? ⟨N10, 1, none⟩ = some (.int .u64 p.ver) := (blk_cell BK.out 1).trans rfl
      have s0 : W10.cell? ⟨N6, 0, none⟩ = some (.int .u64 L.next) := (blk_cell bk6 0).trans rfl
      have s1 : W10.cell? ⟨N6, 1, none⟩ = some (.int .u64 L.newest) := (blk_cell bk6 1).trans rfl
      have s3 : W10.cell? ⟨N6, 3, none⟩ = some (.int .u64 L.cur) := (blk_cell bk6 3).trans rfl
      have d1 : (p.id != p.id) = false := by simp
      have d2 : decide (p.ver < 1) = false := decide_eq_false (by have := HPV.out; omega)
      have d3 : decide (L.newest < p.ver) = false := decide_eq_false (by have := HPV.out; omega)
      have d4 : decide (L.next ≤ p.id) = false := decide_eq_false (by have := HPN.out; omega)
      clear bk6
      go_quiet (fail)
      by_cases c2 : p.ver = L.newest
      · have c2b : (p.ver != L.newest) = false := bne_eq_false_iff_eq.2 c2
        have HC2 := Aside0.mk c2
        clear c2
        go_wp2
        go_roundg (gk - 1)
        case measure => have := HJ.out; have := of_decide_eq_true c1b; omega
        case rel =>
          have hJ := HJ.out
          have hJ2 := of_decide_eq_true c1b
          have hil := HIL.out
          have hpl := HPL.out
          have hcl := Nat.le_trans (cntV_le L.newest (L.posts.take J.toNat)) (List.length_take_le _ _)
          have e1 : (J + 1).toNat = J.toNat + 1 := by omega
          refine ⟨J + 1, by rw [show wrap64 (J + 1) = J + 1 by unfold wrap64; omega], ?_, ⟨by omega⟩, ⟨pw_below_drewN HBA.out _⟩⟩
          rw [e1, cntV_take HPJ.out, if_pos HC2.out]
          rfl
      · have c2b : (p.ver != L.newest) = true := bne_iff_ne.2 c2
        have d5 : decide (p.id ≤ L.cur) = false := decide_eq_false (by have := HPO.out; omega)
        have HC2 := Aside0.mk c2
        clear c2
        go_wp2
        go_roundg (gk - 1)
        case measure => have := HJ.out; have := of_decide_eq_true c1b; omega
        case rel =>
          have hJ := HJ.out
          have hJ2 := of_decide_eq_true c1b
          have hil := HIL.out
          have hpl := HPL.out
          have hcl := Nat.le_trans (cntV_le L.newest (L.posts.take J.toNat)) (List.length_take_le _ _)
          have e1 : (J + 1).toNat = J.toNat + 1 := by omega
          refine ⟨J + 1, by rw [show wrap64 (J + 1) = J + 1 by unfold wrap64; omega], ?_, ⟨by omega⟩, ⟨pw_below_drewN HBA.out _⟩⟩
          rw [e1, cntV_take HPJ.out, if_neg HC2.out]
          congr 1
          unfold wrap64
          omega
    · have c1b : decide (J < (ids.length : Int)) = false := decide_eq_false c1
      have ecn : cntV L.newest (L.posts.take J.toNat) = L.stales := by
        rw [List.take_of_length_le (by have := HJ.out; have := HIL.out; omega)]
        rfl
      have HSL := Aside0.mk (show L.stales ≤ 50 from Nat.le_trans (cntV_le _ _) HPL.out)
      rw [ecn]
      have bk6 := blk_below BS3.out HB.out
      have s3 : wr.cell? ⟨N6, 3, none⟩ = some (.int .u64 L.cur) := (blk_cell bk6 3).trans rfl
      have HLr := Aside0.mk (HL3.out.below HB.out)
      have HZr := Aside0.mk HB.out.size
      have HBr := Aside0.mk (HB03.out.trans (HB.out.mono HB03.out.size))
      have HKr := Aside0.mk (show ∀ k, w1.heap.size ≤ k → k < w3.heap.size → wr.heap[k]? = w3.heap[k]? from fun k _ hk => HB.out.block k hk)
      have HOr := Aside0.mk (show ∀ j, Owns g b v j → j < w1.heap.size ∨ w3.heap.size ≤ j from fun j hj => .inl (HL1.out.lt hj).2)
      clear bk6 ecn c1 HJ
      go_wp2
      go_loopg [12, 13] L.stales (fun kq v12 v13 wr => ∃ (J : Int) (M : LG) (v' : Value) (m : Nat), v12 = .int .u64 M.cur ∧ v13 = .int .i64 J ∧ Aside0 (0 ≤ J ∧ J + kq = L.stales) ∧ Aside0 (Led wr w.heap.size g b m v' M) ∧ Aside0 (m + kq = 50 + L.stales) ∧
        Aside0 (M.Good ∧ M.stales = kq ∧ M.newest = L.newest ∧ M.next = L.next ∧ M.posts.map LP.id = ids) ∧ Aside0 (∀ j, Owns g b v' j → j < w1.heap.size ∨ w3.heap.size ≤ j) ∧ Aside0 (∀ k, w1.heap.size ≤ k → k < w3.heap.size → wr.heap[k]? = w3.heap[k]?) ∧
        Aside0 (Below w.heap.size w wr) ∧ Aside0 (w3.heap.size ≤ wr.heap.size))
      case atStart => exact ⟨0, L, v, 50, rfl, rfl, ⟨by omega⟩, HLr, ⟨rfl⟩, ⟨HGD.out, rfl, rfl, rfl, HIDS.out⟩, HOr, HKr, HBr, HZr⟩
      case round =>
        clear HLr HZr HBr HKr HOr HB s3 c1b
        obtain ⟨J, M, v', m, rfl, rfl, HJ, HL, HMM, HG2, HO, HK, HB, HZ⟩ := hrel
        by_cases c1 : J < L.stales
        · have c1b : decide (J < (L.stales : Int)) = true := decide_eq_true c1
          obtain ⟨s, hs⟩ := HG2.out.1.some_stale (by have := HJ.out; have := HG2.out.2.1; omega)
          have HST := Aside0.mk hs
          have HSP := Aside0.mk (show M.staleP = s by unfold LG.staleP; rw [hs]; rfl)
          have HSI := Aside0.mk (show M.stale.isSome = true by rw [hs]; rfl)
          have hsm := LG.stale_mem hs
          have HSM := Aside0.mk hsm
          obtain ⟨sw1, sw2, sw3, sw4⟩ := HG2.out.1.sweep hs HT.out
          obtain ⟨ap1, ap2⟩ := apply_of sw1
          have hwf : RC.Wf ⟨4, s.id, M.newest, text⟩ := ⟨by show (Lit.int .i64 4).wf = true; decide, by have := HG2.out.1.ok.ids s hsm.1; simp only; omega, by have := HG2.out.1.ok.pols; simp only [LG.newest]; omega⟩
          have hg3 := LG.apply_good HG2.out.1 hwf
          rw [ap1, sw2] at hg3
          have f1 : (⟨setP M.posts ⟨s.id, M.newest, text⟩, M.pols, M.next, s.id⟩ : LG).newest = M.newest := rfl
          obtain ⟨M2, hM2⟩ : ∃ M2 : LG, M2 = ⟨setP M.posts ⟨s.id, M.newest, text⟩, M.pols, M.next, s.id⟩ := ⟨_, rfl⟩
          have HM2 : Aside0 (M2.Good ∧ M2.stales + 1 = M.stales ∧ M2.newest = M.newest ∧ M2.next = M.next ∧ M2.posts.map LP.id = M.posts.map LP.id ∧ M2.cur = s.id) := ⟨by rw [hM2]; exact ⟨hg3, sw4, rfl, rfl, sw3, rfl⟩⟩
          have HAP : Aside0 (M.apply ⟨4, s.id, L.newest, text⟩ = M2) := ⟨by rw [hM2, ← HG2.out.2.2.1, ap1, sw2]⟩
          have HAE : Aside0 (M.errno ⟨4, s.id, L.newest, text⟩ = 0) := ⟨by rw [← HG2.out.2.2.1]; exact ap2⟩
          have HWF := Aside0.mk (show RC.Wf ⟨4, s.id, L.newest, text⟩ by rw [← HG2.out.2.2.1]; exact hwf)
          have hfc := fun W => status_cur W M2
          have d1 : decide (s.id ≤ M.cur) = false := decide_eq_false (by have := hsm.2.2; omega)
          have d2 : (M2.cur != s.id) = false := by rw [HM2.out.2.2.2.2.2]; simp
          clear hs hsm sw1 sw2 sw3 sw4 ap1 ap2 hwf hg3 f1 hM2 c1
          go_wp2_with (go_at_call 16; (with_reducible refine (Stale_calls HL.out).mono ?_); rintro e wS ⟨rfl, hb⟩; rw [HSP.out, HSI.out]; unfold postV; have HbS := Aside0.mk hb; clear hb)
          have BK := Aside0.mk (blk_new wS (.cells #[.int .u64 s.id, .int .u64 s.ver, .string s.text] 42))
          have HbA := Aside0.mk (below_alloc HbS.out (.cells #[.int .u64 s.id, .int .u64 s.ver, .string s.text] 42))
          have HNS := Aside0.mk (show wr.heap.size ≤ wS.heap.size from HbS.out.size)
          have HNA := Aside0.mk (show wS.heap.size < (wS.alloc (.cells #[.int .u64 s.id, .int .u64 s.ver, .string s.text] 42)).heap.size by simp)
          generalize wS.heap.size = N14 at BK HNS HNA ⊢
          generalize wS.alloc (.cells #[.int .u64 s.id, .int .u64 s.ver, .string s.text] 42) = W14 at BK HbA HNA ⊢
          have HL14 := Aside0.mk (HL.out.below HbA.out)
          have HZ14 := Aside0.mk (Nat.le_trans HB.out.size HbA.out.size)
          have HW14 := Aside0.mk (Nat.le_trans HZ.out HbA.out.size)
          have HK14 := Aside0.mk (show ∀ k, w1.heap.size ≤ k → k < w3.heap.size → W14.heap[k]? = w3.heap[k]? from fun k h1 h2 => (HbA.out.block k (by have := HZ.out; omega)).trans (HK.out k h1 h2))
          have B614 := Aside0.mk ((HK14.out N6 HZ2.out HS3.out).trans BS3.out)
          have HBc := Aside0.mk (Below.refl W14.heap.size W14)
          have HSa := Aside0.mk (show ∀ W, Below W14.heap.size W14 W → (W.cell? ⟨N14, 0, none⟩ = some (.int .u64 s.id) ∧ W.cell? ⟨N6, 1, none⟩ = some (.int .u64 L.newest)) from fun W hW => ⟨(blk_cell (blk_below BK.out hW) 0).trans rfl, (blk_cell (blk_below B614.out hW) 1).trans rfl⟩)
          go_region_held3 (fun W => W.cell? ⟨N14, 0, none⟩ = some (.int .u64 s.id) ∧ W.cell? ⟨N6, 1, none⟩ = some (.int .u64 L.newest)) ((first | exact HSE.out | (refine HSa.out _ ?_; repeat (first | exact HBc.out | exact Below.refl _ _ | apply below_drew1 | apply pw_below_drewN | apply below_alloc)))) (first
            | (go_at_call 10; refine (Apply_agg (HL14.out.below (show Below W14.heap.size W14 _ from by repeat (first | exact HBc.out | exact Below.refl _ _ | apply below_drew1 | apply pw_below_drewN | apply below_alloc))) (Nat.le_trans HZ14.out (show Below W14.heap.size W14 _ from by repeat (first | exact HBc.out | exact Below.refl _ _ | apply below_drew1 | apply pw_below_drewN | apply below_alloc)).size) (by have := HMM.out; have := HSL.out; unfold maxLen; omega) HWF.out).mono ?_; rintro e w6 ⟨rfl, ⟨v6, hL6, hv6⟩, hm6⟩; rw [HAP.out] at hL6; rw [HAE.out]; have HL6 := Aside0.mk hL6; have HV6 : Aside0 (∀ j, v6.ownBlock = some j → v'.ownBlock = some j ∨ W14.heap.size ≤ j) := ⟨hv6⟩; have HM6 := Aside0.mk ((Mv.of_below (S := Owns g b v') (show Below W14.heap.size W14 _ from by repeat (first | exact HBc.out | exact Below.refl _ _ | apply below_drew1 | apply pw_below_drewN | apply below_alloc))).trans hm6 (fun j hj => .inl hj)); have BK6 := Aside0.mk ((HM6.out.block N14 (blk_lt BK.out) (fun hj => by have := (HL.out.lt hj).2; have := HNS.out; omega)).trans BK.out); have B66 := Aside0.mk ((HM6.out.block N6 (blk_lt B614.out) (fun hj => by have := HO.out _ hj; have := HS3.out; have := HZ2.out; omega)).trans B614.out); have HSE : Aside0 (w6.cell? ⟨N14, 0, none⟩ = some (.int .u64 s.id) ∧ w6.cell? ⟨N6, 1, none⟩ = some (.int .u64 L.newest)) := ⟨(blk_cell BK6.out 0).trans rfl, (blk_cell B66.out 1).trans rfl⟩; clear hL6 hv6 hm6)
            | (go_at_call 13; refine (Status_calls HL6.out).mono ?_; rintro e w7 ⟨rfl, hb7⟩; have HB7 := Aside0.mk hb7; have HSE : Aside0 (w7.cell? ⟨N14, 0, none⟩ = some (.int .u64 s.id) ∧ w7.cell? ⟨N6, 1, none⟩ = some (.int .u64 L.newest)) := ⟨(blk_cell (blk_below BK6.out hb7) 0).trans rfl, (blk_cell (blk_below B66.out hb7) 1).trans rfl⟩; clear hb7))
          have k0 : w7.cell? ⟨N14, 0, none⟩ = some (.int .u64 s.id) := HSE.out.1
          go_wp2
          go_roundg (gk - 1)
          case measure => have := HJ.out; have := of_decide_eq_true c1b; omega
          case rel =>
            have hJ := HJ.out
            have hJ2 := of_decide_eq_true c1b
            have hsl := HSL.out
            have hg := HG2.out
            have hm := HM2.out
            have hmm := HMM.out
            refine ⟨J + 1, M2, v6, m + 1, by rw [hm.2.2.2.2.2], by rw [show wrap64 (J + 1) = J + 1 by unfold wrap64; omega], ⟨by omega⟩, ⟨HL6.out.below HB7.out⟩, ⟨by omega⟩, ⟨hm.1, by omega, hm.2.2.1.trans hg.2.2.1, hm.2.2.2.1.trans hg.2.2.2.1, hm.2.2.2.2.1.trans hg.2.2.2.2⟩, ⟨fun j hj => ?_⟩, ⟨fun k h1 h2 => ?_⟩, ⟨?_⟩, ⟨?_⟩⟩
            · rcases hj with h_ | h_ | h_
              · exact HO.out j (.inl h_)
              · exact HO.out j (.inr (.inl h_))
              · rcases HV6.out j h_ with h2_ | h2_
                · exact HO.out j (.inr (.inr h2_))
                · have := HW14.out; omega
            · have hk := HK14.out k h1 h2
              have h3 : k < W14.heap.size := by have := HW14.out; omega
              have h4 := HM6.out.block k h3 (fun hj => by have := HO.out _ hj; omega)
              exact ((HB7.out.block k (Nat.lt_of_lt_of_le h3 HM6.out.size)).trans h4).trans hk
            · have hb1 := HB.out.trans (HbA.out.mono HB.out.size)
              have hb2 := mv_below hb1 HM6.out (fun j hj => (HL.out.lt hj).1) hb1.size
              exact hb2.trans (HB7.out.mono hb2.size)
            · have q1 := HM6.out.size
              have q2 := HB7.out.size
              have q3 := HW14.out
              omega
        · have c1b : decide (J < (L.stales : Int)) = false := decide_eq_false c1
          have hz : M.stales = 0 := by have := HG2.out.2.1; have := HJ.out; omega
          obtain ⟨hn1, hn2⟩ := HG2.out.1.no_stale hz
          have HNV := Aside0.mk hn2
          have HSP := Aside0.mk (show postV M.staleP = .agg #[.int .u64 0, .int .u64 0, .string ⟨#[]⟩] by unfold LG.staleP; rw [hn1]; rfl)
          have HSI := Aside0.mk (show M.stale.isSome = false by rw [hn1]; rfl)
          clear hz hn1 hn2 c1
          go_wp2_with (go_at_call 16; (with_reducible refine (Stale_calls HL.out).mono ?_); rintro e wS ⟨rfl, hb⟩; rw [HSP.out, HSI.out]; have HbS := Aside0.mk hb; clear hb)
          have HbA := Aside0.mk (below_alloc HbS.out (.cells #[.int .u64 0, .int .u64 0, .string ⟨#[]⟩] 42))
          generalize wS.alloc (.cells #[.int .u64 0, .int .u64 0, .string ⟨#[]⟩] 42) = W16 at HbA ⊢
          generalize wS.heap.size = N16
          have HLA := Aside0.mk (HL.out.below HbA.out)
          have HKA := Aside0.mk (show ∀ k, w1.heap.size ≤ k → k < w3.heap.size → W16.heap[k]? = w3.heap[k]? from fun k h1 h2 => (HbA.out.block k (by have := HZ.out; omega)).trans (HK.out k h1 h2))
          have HBA := Aside0.mk (HB.out.trans (HbA.out.mono HB.out.size))
          have HVA := Aside0.mk (Kd.V_step (w1 := W16) HV.out (fun k hk _ => HKA.out k hk.1 hk.2))
          have B6A := Aside0.mk ((HKA.out N6 HZ2.out HS3.out).trans BS3.out)
          have HCA := Aside0.mk (show M.posts.length = L.posts.length by rw [← HIL.out, ← HG2.out.2.2.2.2]; simp)
          clear HbS
          go_loopg [18] ids.length (fun kq v18 wr => ∃ J : Int, v18 = .int .i64 J ∧ Aside0 (0 ≤ J ∧ J + kq = ids.length) ∧ Aside0 (Below W16.heap.size W16 wr))
          case atStart => exact ⟨0, rfl, ⟨by omega⟩, ⟨Below.refl _ _⟩⟩
          case round =>
            clear c1b
            obtain ⟨J, rfl, HJ3, HB3⟩ := hrel
            by_cases c1 : J < ids.length
            · have c1b : decide (J < (ids.length : Int)) = true := decide_eq_true c1
              have q0 := eq_true HJ3.out.1
              have q1 := eq_true c1
              obtain ⟨p, hpm, hpi, hpj⟩ := at_id HJ3.out.1 (by have := HIL.out; have := HCA.out; omega : J < M.posts.length)
              rw [HG2.out.2.2.2.2] at hpi
              obtain ⟨ad, ea, hx⟩ := Kd.at_int (Kd.V_reads' (Kd.V_below HVA.out HB3.out)).2.2 J HJ3.out.1 c1
              subst ea
              rw [hpi] at hx
              obtain ⟨g1, g2⟩ := get_of HG2.out.1.ok hpm
              have HG1 := Aside0.mk g1
              have HG2' := Aside0.mk g2
              have HPI := Aside0.mk (HG2.out.1.ok.ids p hpm)
              have HPV := Aside0.mk ((HNV.out p hpm).trans HG2.out.2.2.1)
              have HLr := Aside0.mk (HLA.out.below HB3.out)
              clear g1 g2 hpm hpi hpj c1
              go_wp2_with (go_at_call 15; (with_reducible refine (Get_calls HLr.out (id := p.id) ?s1).mono ?_); (case s1 => have := HPI.out; omega); rintro e wG ⟨rfl, hb⟩; rw [HG1.out, HG2'.out]; unfold postV; rw [HPV.out]; have HBG := Aside0.mk (below_alloc (HB3.out.trans (hb.mono HB3.out.size)) (.cells #[.int .u64 p.id, .int .u64 L.newest, .string p.text] 42)); have bk6 := blk_below B6A.out (HB3.out.trans (hb.mono HB3.out.size)); have h6s := blk_lt bk6; have s1 : wG.cell? ⟨N6, 1, none⟩ = some (.int .u64 L.newest) := (blk_cell bk6 1).trans rfl; clear hb hx bk6)
              go_roundg (gk - 1)
              case measure => have := HJ3.out; have := of_decide_eq_true c1b; omega
              case rel =>
                have hJ := HJ3.out
                have hJ2 := of_decide_eq_true c1b
                have hil := HIL.out
                have hpl := HPL.out
                exact ⟨J + 1, by rw [show wrap64 (J + 1) = J + 1 by unfold wrap64; omega], ⟨by omega⟩, HBG⟩
            · have c1b : decide (J < (ids.length : Int)) = false := decide_eq_false c1
              have B6r := Aside0.mk (blk_below B6A.out HB3.out)
              have HLr := Aside0.mk (HLA.out.below HB3.out)
              have HBr := Aside0.mk (HBA.out.trans (HB3.out.mono HBA.out.size))
              have HBc := Aside0.mk (Below.refl wr.heap.size wr)
              have HSa := Aside0.mk (show ∀ W, Below wr.heap.size wr W → (W.cell? ⟨N6, 2, none⟩ = some (.int .i64 L.posts.length) ∧ True) from fun W hW => ⟨(blk_cell (blk_below B6r.out hW) 2).trans rfl, trivial⟩)
              have hfp : ∀ W : World, (Instr.field 37 (.agg #[.int .u64 M.next, .int .u64 M.newest, .int .i64 L.posts.length, .int .u64 M.cur]) 2).run Try.prog W = .ok (.int .i64 L.posts.length) W := fun W => by
                have := status_posts W M
                rw [HCA.out] at this
                exact this
              have d3 : ((ids.length : Int) == (L.posts.length : Int)) = true := by rw [HIL.out]; simp
              have d4 : (ids.length == L.posts.length) = true := by rw [HIL.out]; simp
              have d5 : ((L.posts.length : Int) == (L.posts.length : Int)) = true := by simp
              clear c1
              go_wp2
              go_region_held3 (fun W => W.cell? ⟨N6, 2, none⟩ = some (.int .i64 L.posts.length) ∧ True) ((refine HSa.out _ ?_; repeat (first | exact HBc.out | exact Below.refl _ _ | apply below_drew1 | apply pw_below_drewN | apply below_alloc))) (first
                | (go_at_call 11; refine (alive_calls _).mono ?_; rintro e w9 ⟨rfl, hb9⟩; have n0_ := Aside0.mk ((show Below wr.heap.size wr _ from by repeat (first | exact HBc.out | exact Below.refl _ _ | apply below_drew1 | apply pw_below_drewN | apply below_alloc)).trans (hb9.mono (show Below wr.heap.size wr _ from by repeat (first | exact HBc.out | exact Below.refl _ _ | apply below_drew1 | apply pw_below_drewN | apply below_alloc)).size)); clear HBc hb9; have HBc := n0_; clear n0_)
                | (go_at_call 13; refine (Status_calls (HLr.out.below (show Below wr.heap.size wr _ from by repeat (first | exact HBc.out | exact Below.refl _ _ | apply below_drew1 | apply pw_below_drewN | apply below_alloc)))).mono ?_; rintro e w9 ⟨rfl, hb9⟩; rw [HCA.out]; have n0_ := Aside0.mk ((show Below wr.heap.size wr _ from by repeat (first | exact HBc.out | exact Below.refl _ _ | apply below_drew1 | apply pw_below_drewN | apply below_alloc)).trans (hb9.mono (show Below wr.heap.size wr _ from by repeat (first | exact HBc.out | exact Below.refl _ _ | apply below_drew1 | apply pw_below_drewN | apply below_alloc)).size)); clear HBc hb9; have HBc := n0_; clear n0_))
              go_wp2
              go_ret
              exact ⟨rfl, HBr.out.trans (HBc.out.mono HBr.out.size)⟩
/-- LedgerSwept (4) -/
theorem swept_true {w : World} {A0 : Option Addr} {c0 : Nat} {l0 : List RC} (hC : Kd.C kRC w A0 l0.length l0) (hc : l0.length ≤ c0) (hm : l0.length ≤ maxLen) (hg : ∀ r ∈ l0, r.Wf) (text : ByteArray) :
    Calls Try.prog 4 #[.slice A0 l0.length c0, .string text] w fun e w' => e = .returned (.bool true) ∧ Below w.heap.size w w' := by
  by_cases ht : 300 < text.size
  · exact swept_long hC hc hm hg ht
  · exact swept_short hC hc hm hg ht
end Go.Proofs.Ytjfkenjmjoncbaa.Lg
