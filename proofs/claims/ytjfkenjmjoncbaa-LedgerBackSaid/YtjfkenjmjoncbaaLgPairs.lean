import Derived.Test.YtjfkenjmjoncbaaPAllx0
import Derived.Test.YtjfkenjmjoncbaaPAllx8
import Derived.Test.YtjfkenjmjoncbaaLgIds
import Derived.Test.YtjfkenjmjoncbaaLgRow
import Derived.Deep.RegionHeld3
namespace Go.Proofs.Ytjfkenjmjoncbaa.Lg
open Go Go.Maps Go.WideShapes Go.RowKit Go.Proofs.Ytjfkenjmjoncbaa.PAll Go.Proofs.YtjfkenjmjoncbaaW.PrintWords Go.Proofs.YtjfkenjmjoncbaaW.PrintLast Go.Proofs.YtjfkenjmjoncbaaW.PrintMore
set_option linter.unusedVariables false
set_option linter.unusedSimpArgs false

theorem info52 : (Try.prog.info? 52).map (fun i => (i.zero, i.size, i.bytes)) = some (some (.agg #[.int .u64 0, .slice none 0 0]), 2, 32) := by kernel_rfl
/-- a row of pairs that has been made from block B on -/
def PRow (w : World) (B : Nat) (u : Value) (ps : List S52) : Prop := Kd.N (kP B) 52 w B (fun k => B ≤ k) u ps
def postS (p : LP) : S52 := ⟨p.id, be8 p.ver ++ bytesOf p.text⟩
def polS (j : Nat) (s : ByteArray) : S52 := ⟨9223372036854775808 + (j : Int) + 1, bytesOf s⟩
def polsS (l : List ByteArray) : List S52 := (List.range l.length).map (fun j => polS j (rdOf ByteArray.empty l (j : Int)))
def LG.pairsS (L : LG) : List S52 := L.posts.map postS ++ polsS L.pols ++ [⟨18446744073709551615, L.status⟩]
theorem get_mem {L : LG} (h : L.Ok) {j : Nat} (hj : j < L.posts.length) : L.get (rd (L.posts.map LP.id) (j : Int)) = L.posts[j] := by
  have e : rd (L.posts.map LP.id) (j : Int) = L.posts[j].id := by
    unfold rd
    simp [hj]
  rw [e]
  unfold LG.get
  rw [h.rise.find (List.getElem_mem hj)]
  rfl
/-- a pair goes to the row's end -/
theorem prow_append {w0 W : World} {ops : Array Oper} {rest : List Oper} {o : Oper} {a : Act} {Q : Exit → Act → World → Prop} (B : Nat) (hgd : o.guard = none) (s x : Operand)
    (ho : o.op = .call { callee := .builtin .append, args := #[s, x], argTypes := #[29, 29] }) (v : Value) (ps : List S52) (key : Int) (u : Value) (bs : List Int) (hs : a.eval s = v) (hx : a.eval x = .slice (some ⟨W.heap.size, 0, none⟩) 1 1)
    (H : Nat) (hu : Bts W (fun k => H ≤ k) B u bs) (hH : ∀ k, v.ownBlock = some k → k < H) (hBH : B ≤ H) (HO : PRow W B v ps) (HB : Below B w0 W) (hbase : B ≤ W.heap.size) (hl : ps.length ≤ 2000000)
    (h : ∀ v1 w1, PRow w1 B v1 (ps ++ [⟨key, bs⟩]) → Below B w0 w1 → wpList Try.prog ops Q rest (a.put o.dst v1) w1) :
    wpList Try.prog ops Q (o :: rest) a (W.alloc (.cells #[.int .u64 key, u] 52)) :=
  Kd.N_append (kP B) (P := Try.prog) B hgd s x 29 52 (.agg #[.int .u64 0, .slice none 0 0]) 32 ho Try.underlying29 info52 rfl (Nat.succ_pos 1) (by decide) v ps ⟨key, bs⟩ [.int .u64 key, u] (fun k => B ≤ k) (fun k => H ≤ k) hs hx (hu.fk key)
    (fun k hk => ⟨Nat.le_trans hBH hk, fun e => by have := hH k e.symm; omega⟩) (fun k hk => Nat.le_trans hbase hk) HO HB hbase (by omega) (fun v1 w1 h1 h2 _ _ => h v1 w1 h1 h2)
theorem prow_step {w0 W : World} {ops : Array Oper} {o : Oper} {a : Act} {K : Act → World → Prop} {Q : Exit → Act → World → Prop} {E : Prop} (B : Nat) (hgd : o.guard = none) (s x : Operand)
    (ho : o.op = .call { callee := .builtin .append, args := #[s, x], argTypes := #[29, 29] }) (v : Value) (ps : List S52) (key : Int) (u : Value) (bs : List Int) (hs : a.eval s = v) (hx : a.eval x = .slice (some ⟨W.heap.size, 0, none⟩) 1 1)
    (H : Nat) (hu : Bts W (fun k => H ≤ k) B u bs) (hH : ∀ k, v.ownBlock = some k → k < H) (hBH : B ≤ H) (HO : PRow W B v ps) (HB : Below B w0 W) (hbase : B ≤ W.heap.size) (hl : ps.length ≤ 2000000)
    (h : ∀ v1 w1, PRow w1 B v1 (ps ++ [⟨key, bs⟩]) → Below B w0 w1 → W.grownBy w1 v.ownBlock → K (a.put o.dst v1) w1) :
    if Region.wanted o (yielded ops a.tmps) = true then Oper.wp Try.prog o a (W.alloc (.cells #[.int .u64 key, u] 52)) K Q else E := by
  have hw : Region.wanted o (yielded ops a.tmps) = true := by simp [Region.wanted, hgd]
  have := Kd.N_append_step (kP B) (P := Try.prog) (Q := Q) (Kc := K) B hw s x 29 52 (.agg #[.int .u64 0, .slice none 0 0]) 32 ho Try.underlying29 info52 rfl (Nat.succ_pos 1) (by decide) v ps ⟨key, bs⟩ [.int .u64 key, u] (fun k => B ≤ k) (fun k => H ≤ k) hs hx (hu.fk key)
    (fun k hk => ⟨Nat.le_trans hBH hk, fun e => by have := hH k e.symm; omega⟩) (fun k hk => Nat.le_trans hbase hk) HO HB hbase (by omega) (fun v1 w1 h1 h2 h3 _ => h v1 w1 h1 h2 h3)
  rw [if_pos hw] at this ⊢
  exact this
theorem PRow.below {w w1 : World} {B : Nat} {u : Value} {ps : List S52} (h : PRow w B u ps) (hb : Below w.heap.size w w1) : PRow w1 B u ps := Kd.N_below h hb
set_option maxHeartbeats 4000000 in
set_option maxRecDepth 100000 in
/-- Pairs (9) -/
theorem Pairs_calls {w : World} {B g b n : Nat} {v : Value} {L : LG} (h : Led w B g b n v L) (hn : n ≤ 1000000) :
    Calls Try.prog 9 #[.pointer (some ⟨g, 0, none⟩)] w fun e w' => ∃ u B1, e = .returned u ∧ w.heap.size ≤ B1 ∧ PRow w' B1 u L.pairsS ∧ Below w.heap.size w w' := by
  have HI := Aside0.mk (ids_calls h hn)
  have HN := Aside0.mk hn
  have HH := Aside0.mk h
  have HOK := Aside0.mk h.ok
  have HLN := Aside0.mk h.len
  obtain ⟨AP, cP, rfl, hcP, _⟩ := h.pol_at
  have HCP := Aside0.mk hcP
  obtain ⟨⟨h0, h1, h2, h3⟩, hf⟩ := h.cells
  clear h hn hcP
  go_enter Try.func9, Try.ntmps9
  go_wp2_with (go_at_call 24; refine HI.out.mono ?_; rintro e wI ⟨uI, rfl, hR, hbI⟩; obtain ⟨AI, cI, eI⟩ := Kd.R_slice hR; subst eI; have HRI := Aside0.mk hR; have HBI := Aside0.mk hbI; clear hR hbI h0 h1 h2 h3 hf)
  have hilen : (L.posts.map LP.id).length = L.posts.length := by simp
  have HCI := Aside0.mk (Kd.R_reads' HRI.out).2.2
  have HLI := Aside0.mk (HH.out.below HBI.out)
  rw [hilen] at HCI
  clear hilen
  go_loopg [3, 15] L.posts.length (fun kq v3 v15 wr => ∃ J : Int, v15 = .int .i64 J ∧ Aside0 (0 ≤ J ∧ J + kq = L.posts.length) ∧ Aside0 (PRow wr wI.heap.size v3 ((L.posts.map postS).take J.toNat)) ∧ Aside0 (Below wI.heap.size wI wr))
  case atStart => exact ⟨0, rfl, ⟨by omega⟩, ⟨Kd.N_nil _ _ _ _ _⟩, ⟨Below.refl _ _⟩⟩
  case round =>
    obtain ⟨J, rfl, HJ, HP, HB⟩ := hrel
    by_cases c1 : J < L.posts.length
    · have c1b : decide (J < (L.posts.length : Int)) = true := decide_eq_true c1
      have q0 := eq_true HJ.out.1
      have q1 := eq_true c1
      obtain ⟨p, hpm, hpi, hpg, hpj⟩ : ∃ p, p ∈ L.posts ∧ rd (L.posts.map LP.id) J = p.id ∧ L.get p.id = p ∧ (L.posts.map postS)[J.toNat]? = some (postS p) := by
        have hj : J.toNat < L.posts.length := by have := HJ.out.1; omega
        have e1 : rd (L.posts.map LP.id) J = L.posts[J.toNat].id := by unfold rd; simp [hj]
        refine ⟨L.posts[J.toNat], List.getElem_mem hj, e1, ?_, by simp [hj]⟩
        unfold LG.get
        rw [HOK.out.rise.find (List.getElem_mem hj)]
        rfl
      obtain ⟨ad, ea, hx⟩ := Kd.at_int HCI.out J HJ.out.1 c1
      subst ea
      rw [hpi] at hx
      replace hx := (HB.out.cell (World.block_lt_of_cell? wI _ hx)).trans hx
      have HLr := Aside0.mk (HLI.out.below HB.out)
      obtain ⟨⟨h0, h1, h2, h3⟩, hf⟩ := HLr.out.cells
      have hk := Aside0.mk (keyOf_int_mk Try.underlying24 (wf64 (x := p.id) (by have := HOK.out.ids p hpm; omega)))
      have HPG := Aside0.mk hpg
      have HPJ := Aside0.mk hpj
      have hput := Aside0.mk (show ledger_put.f 9 [] p.ver = some (be8 p.ver) from put_is (HOK.out.vers p hpm) [] (by simp))
      have HTX := Aside0.mk (HOK.out.texts p hpm)
      clear hpm hpi hpg hpj c1
      go_wp2_with (at_lookup; refine wp_look _ rfl _ _ rfl rfl HLr.out.map rfl hk.out ?_; rw [HPG.out])
      have HB8 := Aside0.mk (below_alloc HB.out (.cells #[.int .u64 p.id, .int .u64 p.ver, .string p.text] 42))
      have HP8 := Aside0.mk (HP.out.below (below_alloc (Below.refl _ _) (.cells #[.int .u64 p.id, .int .u64 p.ver, .string p.text] 42)))
      have BK8 := Aside0.mk (blk_new wr (.cells #[.int .u64 p.id, .int .u64 p.ver, .string p.text] 42))
      have HS8 := Aside0.mk (show wI.heap.size ≤ (wr.alloc (.cells #[.int .u64 p.id, .int .u64 p.ver, .string p.text] 42)).heap.size from HB8.out.size)
      clear hx h0 h1 h2 h3 hf
      generalize wr.heap.size = N8 at BK8 ⊢
      generalize wr.alloc (.cells #[.int .u64 p.id, .int .u64 p.ver, .string p.text] 42) = W8 at HB8 HP8 BK8 HS8 ⊢
      have HSa := Aside0.mk (show ∀ W, Below W8.heap.size W8 W → (W.cell? ⟨N8, 1, none⟩ = some (.int .u64 p.ver) ∧ W.cell? ⟨N8, 2, none⟩ = some (.string p.text)) from fun W hW => ⟨(blk_cell (blk_below BK8.out hW) 1).trans rfl, (blk_cell (blk_below BK8.out hW) 2).trans rfl⟩)
      have HBc := Aside0.mk (Below.refl W8.heap.size W8)
      obtain ⟨bs, hbs⟩ : ∃ bs, bs = be8 p.ver ++ bytesOf p.text := ⟨_, rfl⟩
      have HBS := Aside0.mk hbs
      clear hbs
      go_region_held3 (fun W => W.cell? ⟨N8, 1, none⟩ = some (.int .u64 p.ver) ∧ W.cell? ⟨N8, 2, none⟩ = some (.string p.text)) ((first | exact HSE.out | (refine HSa.out _ ?_; repeat (first | exact HBc.out | exact Below.refl _ _ | apply below_drew1 | apply pw_below_drewN | apply below_alloc)))) (first | (go_at_call 25; refine (ledger_put.calls 9 (fun _ => False) (.slice none 0 0) [] p.ver (be8 p.ver) _ _ (Below.refl _ _) (Kd.R_nil _ _ _ _ _) hput.out).mono ?_; rintro e w5 ⟨v5, rfl, hR5, hb5, hk5⟩; obtain ⟨A5, c5, e5⟩ := Kd.R_slice hR5; subst e5; have HR5 := Aside0.mk hR5; have n0_ := Aside0.mk ((show Below W8.heap.size W8 _ from by repeat (first | exact HBc.out | exact Below.refl _ _ | apply below_drew1 | apply pw_below_drewN | apply below_alloc)).trans hb5); clear HBc; have HBc := n0_; clear n0_ hR5 hb5 hk5) | (refine step_append_str (P := Try.prog) W8.heap.size rfl (.tmp 29) (.tmp 31) 50 9 5 rfl Try.underlying50 Try.underlying9 info5 (.slice A5 (be8 p.ver).length c5) (be8 p.ver) p.text rfl rfl (Kd.own_of_R HR5.out) (HBc.out.size) (by have := HTX.out; rw [be8_len]; omega) ?_; intro v6 w6 ho6 hg6; rw [← HBS.out] at ho6; have HR6 := Aside0.mk (show (Kd.int .u8).R 5 w6 W8.heap.size (fun _ => True) v6 bs from Kd.R_of_own ho6 (fun _ _ => trivial)); obtain ⟨A6, c6, e6⟩ := Kd.R_slice HR6.out; subst e6; have n0_ := Aside0.mk (HBc.out.grown hg6 HBc.out.size (fun k hk => Kd.R_base HR5.out k hk)); clear HBc; have HBc := n0_; clear n0_ ho6 hg6) | (refine prow_step (w0 := wI) wI.heap.size rfl (.tmp 25) (.tmp 34) rfl u3 ((L.posts.map postS).take J.toNat) p.id (.slice A6 bs.length c6) bs rfl rfl W8.heap.size (((Bts.own HR6.out).base HS8.out)) (fun k hk => Kd.N_lt HP8.out k hk) HS8.out (HP8.out.below HBc.out) (HB8.out.trans (HBc.out.mono HS8.out)) (Nat.le_trans HS8.out HBc.out.size) (by have := HN.out; have := HLN.out; simp; omega) ?_; intro v9 w9 hP9 hB9 hg9; have HP9 := Aside0.mk hP9; have HB9 := Aside0.mk hB9; have hbk9 : w9.heap[N8]? = some (.cells #[.int .u64 p.id, .int .u64 p.ver, .string p.text] 42 (0, 0)) := (hg9.block N8 (blk_lt (blk_below BK8.out HBc.out)) (Kd.N_ne (HP8.out.below HBc.out) (blk_below BK8.out HBc.out) (by decide))).trans (blk_below BK8.out HBc.out); have HSE : Aside0 (w9.cell? ⟨N8, 1, none⟩ = some (.int .u64 p.ver) ∧ w9.cell? ⟨N8, 2, none⟩ = some (.string p.text)) := ⟨(blk_cell hbk9 1).trans rfl, (blk_cell hbk9 2).trans rfl⟩; clear hP9 hB9 hg9 hbk9))
      go_wp2
      go_roundg (gk - 1)
      case measure => have := HJ.out; have := of_decide_eq_true c1b; omega
      case rel =>
        have hJ := HJ.out
        have hJ2 := of_decide_eq_true c1b
        refine ⟨J + 1, by rw [show wrap64 (J + 1) = J + 1 from (by have := HN.out; have := HLN.out; unfold wrap64; omega)], ⟨by omega⟩, ⟨?_⟩, HB9⟩
        have e1 : (J + 1).toNat = J.toNat + 1 := by omega
        rw [e1, List.take_add_one, HPJ.out]
        have e2 : (⟨p.id, bs⟩ : S52) = postS p := by rw [HBS.out]; rfl
        rw [e2] at HP9
        exact HP9.out
    · have c1b : decide (J < (L.posts.length : Int)) = false := decide_eq_false c1
      have hJ1 : J.toNat = L.posts.length := by have := HJ.out; omega
      rw [hJ1, List.take_of_length_le (by simp)] at HP
      clear hJ1 c1
      have HLr := Aside0.mk (HLI.out.below HB.out)
      obtain ⟨⟨h0, h1, h2, h3⟩, hf⟩ := HLr.out.cells
      have HPO := Aside0.mk HOK.out.pols
      go_wp2
      go_loopg [3, 42] L.pols.length (fun kq v3 v42 wr => ∃ J : Int, v42 = .int .i64 J ∧ Aside0 (0 ≤ J ∧ J + kq = L.pols.length) ∧ Aside0 (PRow wr wI.heap.size v3 (L.posts.map postS ++ (polsS L.pols).take J.toNat)) ∧ Aside0 (Below wI.heap.size wI wr))
      case atStart => exact ⟨0, rfl, ⟨by omega⟩, ⟨by simpa using HP.out⟩, HB⟩
      case round =>
        clear HP HB HLr h0 h1 h2 h3 hf HJ c1b
        obtain ⟨J, rfl, HJ, HP, HB⟩ := hrel
        have HLr := Aside0.mk (HLI.out.below HB.out)
        by_cases c1 : J < L.pols.length
        · have c1b : decide (J < (L.pols.length : Int)) = true := decide_eq_true c1
          have q0 := eq_true HJ.out.1
          have q1 := eq_true c1
          obtain ⟨A', c', ev, _, hat⟩ := HLr.out.pol_at
          injection ev with eA en ec
          subst eA; subst ec
          clear en
          obtain ⟨ad, ea, hx⟩ := hat J HJ.out.1 c1
          subst ea
          clear hat
          obtain ⟨s, hs⟩ : ∃ s, s = rdOf ByteArray.empty L.pols J := ⟨_, rfl⟩
          have hj : J.toNat < L.pols.length := by have := HJ.out.1; omega
          have hsm : s ∈ L.pols := by rw [hs]; unfold rdOf; rw [List.getD_eq_getElem?_getD, List.getElem?_eq_getElem hj]; exact List.getElem_mem hj
          have HSZ := Aside0.mk (HOK.out.ptexts s hsm)
          have HPJ : Aside0 ((polsS L.pols)[J.toNat]? = some (polS J.toNat s)) := ⟨by
            unfold polsS
            rw [List.getElem?_map, List.getElem?_range hj]
            simp only [Option.map_some]
            rw [hs, show ((J.toNat : Nat) : Int) = J by have := HJ.out.1; omega]⟩
          rw [← hs] at hx
          have hcv := fun W => print_bytes (P := Try.prog) 9 50 5 Try.underlying9 Try.underlying50 Try.underlying5 s W
          have hJb := HJ.out
          obtain ⟨K1, hK1⟩ : ∃ K1, K1 = 9223372036854775808 + J := ⟨_, rfl⟩
          obtain ⟨K2, hK2⟩ : ∃ K2, K2 = K1 + 1 := ⟨_, rfl⟩
          have hw1 : IntKind.u64.wrap J = J := by have := HPO.out; simp [IntKind.wrap, IntKind.bits, IntKind.signed]; omega
          have hw2 : IntKind.u64.wrap (9223372036854775808 + J) = K1 := by have := HPO.out; rw [hK1]; simp [IntKind.wrap, IntKind.bits, IntKind.signed]; omega
          have hw3 : IntKind.u64.wrap (K1 + 1) = K2 := by have := HPO.out; rw [hK2, hK1]; simp [IntKind.wrap, IntKind.bits, IntKind.signed]; omega
          have HK2 := Aside0.mk (show K2 = 9223372036854775808 + J + 1 by rw [hK2, hK1])
          have HBr := Aside0.mk (bytes_below (Below.refl wr.heap.size wr) (Nat.le_refl _) 5 s)
          clear hs hsm hj hJb hK1 hK2 c1
          go_wp2_with (at_builtin; refine prow_append (w0 := wI) wI.heap.size rfl _ _ rfl u3 (L.posts.map postS ++ (polsS L.pols).take J.toNat) K2 (.slice (some ⟨wr.heap.size, 0, none⟩) s.size (grownCap wr s.size 0 5)) (bytesOf s) rfl rfl wr.heap.size ((Bts.text wr s HSZ.out (HB.out.size)).mono (fun k hk => Nat.le_of_eq hk.symm)) (fun k hk => Kd.N_lt HP.out k hk) HB.out.size (HP.out.below HBr.out) (HB.out.trans (HBr.out.mono HB.out.size)) (Nat.le_trans HB.out.size HBr.out.size) (by have := HN.out; have := HLN.out; have := HPO.out; simp [polsS]; omega) ?_; intro v9 w9 hP9 hB9; have HP9 := Aside0.mk hP9; have HB9 := Aside0.mk hB9; clear hP9 hB9; go_frame)
          go_roundg (gk - 1)
          case measure => have := HJ.out; have := of_decide_eq_true c1b; omega
          case rel =>
            have hJ := HJ.out
            have hJ2 := of_decide_eq_true c1b
            refine ⟨J + 1, by rw [show wrap64 (J + 1) = J + 1 from (by have := HPO.out; unfold wrap64; omega)], ⟨by omega⟩, ⟨?_⟩, HB9⟩
            have e1 : (J + 1).toNat = J.toNat + 1 := by omega
            rw [e1, List.take_add_one, HPJ.out]
            have e2 : (⟨K2, bytesOf s⟩ : S52) = polS J.toNat s := by
              unfold polS
              rw [HK2.out]
              congr 3
              omega
            rw [e2, List.append_assoc] at HP9
            exact HP9.out
        · have c1b : decide (J < (L.pols.length : Int)) = false := decide_eq_false c1
          have hJ1 : J.toNat = L.pols.length := by have := HJ.out; omega
          rw [hJ1, List.take_of_length_le (by simp [polsS])] at HP
          clear hJ1 c1
          obtain ⟨⟨h0, h1, h2, h3⟩, hf⟩ := HLr.out.cells
          go_wp2
          have HSF := Aside0.mk HB.out.size
          obtain ⟨WF, hWF⟩ : ∃ WF, WF = wr := ⟨_, rfl⟩
          rw [← hWF] at HP HB HLr HSF ⊢
          clear hWF h0 h1 h2 h3 hf
          obtain ⟨bs1, hb1⟩ : ∃ bs1, bs1 = be8 L.next := ⟨_, rfl⟩
          obtain ⟨bs2, hb2⟩ : ∃ bs2, bs2 = bs1 ++ be8 L.newest := ⟨_, rfl⟩
          obtain ⟨bs3, hb3⟩ : ∃ bs3, bs3 = bs2 ++ be8 L.cur := ⟨_, rfl⟩
          have hnw : 0 ≤ L.newest ∧ L.newest ≤ 18446744073709551615 := by have := HPO.out; unfold LG.newest; omega
          have P1 : Aside0 (ledger_put.f 9 [] L.next = some bs1) := ⟨by rw [hb1]; exact put_is HOK.out.next [] (by simp)⟩
          have P2 : Aside0 (ledger_put.f 9 bs1 L.newest = some bs2) := ⟨by rw [hb2]; exact put_is hnw bs1 (by rw [hb1, be8_len]; omega)⟩
          have P3 : Aside0 (ledger_put.f 9 bs2 L.cur = some bs3) := ⟨by rw [hb3]; exact put_is HOK.out.cur bs2 (by rw [hb2, hb1, List.length_append, be8_len, be8_len]; omega)⟩
          have HBS : Aside0 (bs3 = L.status) := ⟨by rw [hb3, hb2, hb1]; rfl⟩
          clear hb1 hb2 hb3 hnw
          have HSa := Aside0.mk (show ∀ W, Below WF.heap.size WF W → (W.cell? ⟨g, 2, none⟩ = some (.int .u64 L.next) ∧ W.cell? ⟨g, 3, none⟩ = some (.int .u64 L.cur)) from fun W hW => ⟨(HLr.out.below hW).cells.1.2.2.1, (HLr.out.below hW).cells.1.2.2.2⟩)
          have HBc := Aside0.mk (Below.refl WF.heap.size WF)
          go_region_held3 (fun W => W.cell? ⟨g, 2, none⟩ = some (.int .u64 L.next) ∧ W.cell? ⟨g, 3, none⟩ = some (.int .u64 L.cur)) ((refine HSa.out _ ?_; repeat (first | exact HBc.out | exact Below.refl _ _ | apply below_drew1 | apply pw_below_drewN | apply below_alloc))) (first
            | (go_at_call 26; refine (newest_calls (HLr.out.below (show Below WF.heap.size WF _ from by repeat (first | exact HBc.out | exact Below.refl _ _ | apply below_drew1 | apply pw_below_drewN | apply below_alloc)))).mono ?_; rintro e w5 ⟨rfl, rfl⟩)
            | (go_at_call 25; (with_reducible refine (ledger_put.calls 9 (fun _ => True) (.slice none 0 0) [] L.next bs1 WF _ ?s1 ?s2 P1.out).mono ?_); (case s1 => repeat (first | exact HBc.out | exact Below.refl _ _ | apply below_drew1 | apply pw_below_drewN | apply below_alloc)); (case s2 => exact Kd.R_nil _ _ _ _ _); rintro e w5 ⟨v5, rfl, hR5, hb5, hk5⟩; have hR1 := Aside0.mk (Kd.R_mono (ok' := fun _ => True) hR5 (fun _ _ => trivial)); obtain ⟨AR1, cR1, e5⟩ := Kd.R_slice hR1.out; subst e5; clear HBc; have HBc := Aside0.mk hb5; clear hR5 hb5 hk5)
            | (go_at_call 25; (with_reducible refine (ledger_put.calls 9 (fun _ => True) (.slice AR1 bs1.length cR1) bs1 L.newest bs2 WF _ ?s1 ?s2 P2.out).mono ?_); (case s1 => repeat (first | exact HBc.out | exact Below.refl _ _ | apply below_drew1 | apply pw_below_drewN | apply below_alloc)); (case s2 => exact Kd.R_below hR1.out (by first | exact Below.refl _ _ | exact below_drew1 (Below.refl _ _))); rintro e w5 ⟨v5, rfl, hR5, hb5, hk5⟩; have hR2 := Aside0.mk (Kd.R_mono (ok' := fun _ => True) hR5 (fun _ _ => trivial)); obtain ⟨AR2, cR2, e5⟩ := Kd.R_slice hR2.out; subst e5; clear HBc; have HBc := Aside0.mk hb5; clear hR5 hb5 hk5)
            | (go_at_call 25; (with_reducible refine (ledger_put.calls 9 (fun _ => True) (.slice AR2 bs2.length cR2) bs2 L.cur bs3 WF _ ?s1 ?s2 P3.out).mono ?_); (case s1 => repeat (first | exact HBc.out | exact Below.refl _ _ | apply below_drew1 | apply pw_below_drewN | apply below_alloc)); (case s2 => exact Kd.R_below hR2.out (by first | exact Below.refl _ _ | exact below_drew1 (Below.refl _ _))); rintro e w5 ⟨v5, rfl, hR5, hb5, hk5⟩; have hR3 := Aside0.mk (Kd.R_mono (ok' := fun _ => True) hR5 (fun _ _ => trivial)); obtain ⟨AR3, cR3, e5⟩ := Kd.R_slice hR3.out; subst e5; clear HBc; have HBc := Aside0.mk hb5; clear hR5 hb5 hk5))
          have HB5 := Aside0.mk (HB.out.trans (HBc.out.mono HSF.out))
          go_wp2_with (at_builtin; refine prow_append (w0 := wI) wI.heap.size rfl _ _ rfl u3 (L.posts.map postS ++ polsS L.pols) 18446744073709551615 (.slice AR3 bs3.length cR3) bs3 rfl rfl WF.heap.size ((Bts.own hR3.out).base HSF.out) (fun k hk => Kd.N_lt HP.out k hk) HSF.out (HP.out.below HBc.out) HB5.out (Nat.le_trans HSF.out HBc.out.size) (by have := HN.out; have := HLN.out; have := HPO.out; simp [polsS]; omega) ?_; intro v9 w9 hP9 hB9; have HP9 := Aside0.mk hP9; have HB9 := Aside0.mk hB9; clear hP9 hB9; go_frame)
          go_ret
          rw [HBS.out] at HP9
          exact ⟨_, wI.heap.size, rfl, HBI.out.size, HP9.out, HBI.out.trans (HB9.out.mono HBI.out.size)⟩
end Go.Proofs.Ytjfkenjmjoncbaa.Lg
