import Derived.Test.YtjfkenjmjoncbaaPAllx0
import Derived.Test.YtjfkenjmjoncbaaLgApply
import Derived.Test.YtjfkenjmjoncbaaLgPairs
namespace Go.Proofs.Ytjfkenjmjoncbaa.Lg
open Go Go.Maps Go.WideShapes Go.RowKit Go.Proofs.Ytjfkenjmjoncbaa.PAll Go.Proofs.YtjfkenjmjoncbaaW.PrintWords Go.Proofs.YtjfkenjmjoncbaaW.PrintLast Go.Proofs.YtjfkenjmjoncbaaW.PrintMore
set_option linter.unusedVariables false
set_option linter.unusedSimpArgs false

/-! ### records as they are read -/
def kRC : Kd RC := Kd.iso (Kd.pair (Kd.int .i64) (Kd.pair (Kd.int .u64) (Kd.pair (Kd.int .u64) Kd.string))) (fun x : RC => (x.kind, x.id, x.ver, x.text))
theorem kRC_open {w : World} {x : RC} {cs : List Value} (h : kRC.K w x cs) : cs = [.int .i64 x.kind, .int .u64 x.id, .int .u64 x.ver, .string x.text] := by
  obtain ⟨_, _, rfl, rfl, ⟨_, _, rfl, rfl, ⟨_, _, rfl, rfl, rfl⟩⟩⟩ := h
  exact rfl
def rd_RC (xs : List RC) (i : Int) : RC := xs.getD i.toNat ⟨0, 0, 0, ByteArray.empty⟩
theorem at_RC {w : World} {A : Option Addr} {n : Nat} {xs : List RC} (h : Kd.C kRC w A n xs) (i : Int) (h0 : 0 ≤ i) (h1 : i < n) : ∃ ad, A = some ad ∧ w.cell? (ad.add (i.toNat * 4)) = some (.int .i64 (rd_RC xs i).kind) ∧ w.cell? ⟨(ad.add (i.toNat * 4)).block, (ad.add (i.toNat * 4)).off + 1, none⟩ = some (.int .u64 (rd_RC xs i).id) ∧
    w.cell? ⟨(ad.add (i.toNat * 4)).block, (ad.add (i.toNat * 4)).off + 2, none⟩ = some (.int .u64 (rd_RC xs i).ver) ∧ w.cell? ⟨(ad.add (i.toNat * 4)).block, (ad.add (i.toNat * 4)).off + 3, none⟩ = some (.string (rd_RC xs i).text) := by
  obtain ⟨ad, c, e, _, hK, hc0⟩ := Kd.C_get h ⟨0, 0, 0, ByteArray.empty⟩ i h0 h1
  have hc : ∀ j u, c[j]? = some u → w.cell? (ad.add (i.toNat * 4 + j)) = some u := hc0
  obtain rfl := kRC_open hK
  exact ⟨ad, e, hc 0 _ rfl, by rw [← add_field _ _ 1 (by omega)]; exact hc 1 _ rfl, by rw [← add_field _ _ 2 (by omega)]; exact hc 2 _ rfl, by rw [← add_field _ _ 3 (by omega)]; exact hc 3 _ rfl⟩
def play1 (L : LG) (r : RC) : LG := if r.text.size ≤ 300 then L.apply r else L
def play (L : LG) (rs : List RC) : LG := rs.foldl play1 L
theorem play_snoc (L : LG) (rs : List RC) (r : RC) : play L (rs ++ [r]) = play1 (play L rs) r := by simp [play]
theorem play_ind {P : LG → Prop} {G : RC → Prop} (hs : ∀ L r, P L → G r → P (L.apply r)) : ∀ (rs : List RC) (L : LG), P L → (∀ r ∈ rs, G r) → P (play L rs)
  | [], L, h, _ => h
  | r :: rs, L, h, hg => by
    refine play_ind hs rs (play1 L r) ?_ (fun q hq => hg q (List.mem_cons_of_mem _ hq))
    unfold play1
    split
    · exact hs L r h (hg r (List.mem_cons_self ..))
    · exact h
set_option maxHeartbeats 4000000 in
set_option maxRecDepth 100000 in
/-- played (8) -/
theorem played_calls {w : World} {A0 : Option Addr} {c0 : Nat} {l0 : List RC} (hC : Kd.C kRC w A0 l0.length l0) (hc : l0.length ≤ c0) (hm : l0.length ≤ maxLen) (hg : ∀ r ∈ l0, r.Wf) :
    Calls Try.prog 8 #[.slice A0 l0.length c0] w fun e w' => ∃ g b v, e = .returned (.pointer (some ⟨g, 0, none⟩)) ∧ Led w' w.heap.size g b 50 v (play LG.empty (l0.take 50)) ∧ Below w.heap.size w w' := by
  have HC := Aside0.mk hC
  have HG := Aside0.mk hg
  have HM := Aside0.mk hm
  clear hC hc hm hg
  go_enter Try.func8, Try.ntmps8
  go_wp2_with (go_at_call 23; refine (New_calls _).mono ?_; rintro e w1 ⟨g, b, rfl, hL, hb⟩; have HL1 := Aside0.mk hL; have HB1 := Aside0.mk hb; clear hL hb)
  go_loopg [4] 50 (fun kq v4 wr => ∃ (J : Int) (v : Value), v4 = .int .i64 J ∧ Aside0 (0 ≤ J ∧ J + kq = 50) ∧ Aside0 (J ≤ l0.length) ∧ Aside0 (Led wr w.heap.size g b J.toNat v (play LG.empty (l0.take J.toNat))) ∧ Aside0 (Below w.heap.size w wr))
  case atStart => exact ⟨0, _, rfl, ⟨by omega⟩, ⟨by omega⟩, HL1, HB1⟩
  case round =>
    clear HL1 HB1
    obtain ⟨J, v, rfl, HJ, HJL, HL, HB⟩ := hrel
    by_cases c1 : J < l0.length
    · have c1b : decide (J < (l0.length : Int)) = true := decide_eq_true c1
      by_cases c2 : J < 50
      · have c2b : decide (J < 50) = true := decide_eq_true c2
        have q0 := eq_true HJ.out.1
        have q1 := eq_true c1
        obtain ⟨ad, ea, x0, x1, x2, x3⟩ := at_RC HC.out J HJ.out.1 c1
        subst ea
        have hj : J.toNat < l0.length := by have := HJ.out; omega
        obtain ⟨r, hr⟩ : ∃ r, rd_RC l0 J = r := ⟨_, rfl⟩
        have hrm : r ∈ l0 := by rw [← hr]; unfold rd_RC; rw [List.getD_eq_getElem?_getD, List.getElem?_eq_getElem hj]; exact List.getElem_mem hj
        have hrj : l0[J.toNat]? = some r := by rw [← hr]; unfold rd_RC; rw [List.getD_eq_getElem?_getD, List.getElem?_eq_getElem hj]; rfl
        rw [hr] at x0 x1 x2 x3
        have HWF := Aside0.mk (HG.out r hrm)
        have HRJ := Aside0.mk hrj
        replace x0 := (HB.out.cell (World.block_lt_of_cell? w _ x0)).trans x0
        replace x1 := (HB.out.cell (World.block_lt_of_cell? w _ x1)).trans x1
        replace x2 := (HB.out.cell (World.block_lt_of_cell? w _ x2)).trans x2
        replace x3 := (HB.out.cell (World.block_lt_of_cell? w _ x3)).trans x3
        have HSZ := Aside0.mk HB.out.size
        clear hj hr hrm hrj c1 c2
        have hjw : wrap64 (J + 1) = J + 1 := by have := HJ.out; unfold wrap64; omega
        by_cases c3 : r.text.size ≤ 300
        · have c3b : decide ((r.text.size : Int) ≤ 300) = true := decide_eq_true (by omega)
          have HP1 := Aside0.mk (show play1 (play LG.empty (l0.take J.toNat)) r = (play LG.empty (l0.take J.toNat)).apply r from if_pos c3)
          clear c3
          go_wp2_with (go_at_call 10; refine (Apply_calls HL.out HSZ.out (by have := HJ.out; unfold maxLen; omega) r HWF.out).mono ?_; rintro e w5 ⟨rfl, ⟨v5, hL5, _⟩, hm5⟩; have HL5 := Aside0.mk hL5; have HB5 := Aside0.mk (mv_below HB.out hm5 (fun j hj => (HL.out.lt hj).1) HSZ.out); clear hL5 hm5)
          go_roundg (gk - 1)
          case measure => have := HJ.out; have := of_decide_eq_true c2b; omega
          case rel =>
            have hJ := HJ.out
            have hJ1 := of_decide_eq_true c1b
            have hJ2 := of_decide_eq_true c2b
            have e1 : (J + 1).toNat = J.toNat + 1 := by omega
            have e2 : play LG.empty (l0.take (J.toNat + 1)) = play1 (play LG.empty (l0.take J.toNat)) r := by
              rw [List.take_add_one, HRJ.out]
              exact play_snoc _ _ _
            refine ⟨J + 1, v5, by rw [hjw], ⟨by omega⟩, ⟨by omega⟩, ⟨?_⟩, HB5⟩
            rw [e1, e2, HP1.out]
            exact HL5.out
        · have c3b : decide ((r.text.size : Int) ≤ 300) = false := decide_eq_false (by omega)
          have HP1 := Aside0.mk (show play1 (play LG.empty (l0.take J.toNat)) r = (play LG.empty (l0.take J.toNat)) from if_neg c3)
          clear c3
          go_wp2
          go_roundg (gk - 1)
          case measure => have := HJ.out; have := of_decide_eq_true c2b; omega
          case rel =>
            have hJ := HJ.out
            have hJ1 := of_decide_eq_true c1b
            have hJ2 := of_decide_eq_true c2b
            have e1 : (J + 1).toNat = J.toNat + 1 := by omega
            have e2 : play LG.empty (l0.take (J.toNat + 1)) = play1 (play LG.empty (l0.take J.toNat)) r := by
              rw [List.take_add_one, HRJ.out]
              exact play_snoc _ _ _
            refine ⟨J + 1, v, by rw [hjw], ⟨by omega⟩, ⟨by omega⟩, ⟨?_⟩, HB⟩
            rw [e1, e2, HP1.out]
            exact HL.out.mono (Nat.le_succ _)
      · have c2b : decide (J < 50) = false := decide_eq_false c2
        go_wp2
        go_ret
        have e1 : l0.take J.toNat = l0.take 50 := by
          have := HJ.out
          have := HJL.out
          first
          | (rw [show J.toNat = 50 by omega])
          | (rw [List.take_of_length_le (by omega), List.take_of_length_le (by omega)])
        rw [e1] at HL
        exact ⟨g, rfl, ⟨b, v, HL.out.mono (by have := HJ.out; omega)⟩, HB.out⟩
    · have c1b : decide (J < (l0.length : Int)) = false := decide_eq_false c1
      go_wp2
      go_ret
      have e1 : l0.take J.toNat = l0.take 50 := by
        have := HJ.out
        have := HJL.out
        first
        | (rw [show J.toNat = 50 by omega])
        | (rw [List.take_of_length_le (by omega), List.take_of_length_le (by omega)])
      rw [e1] at HL
      exact ⟨g, rfl, ⟨b, v, HL.out.mono (by have := HJ.out; omega)⟩, HB.out⟩
end Go.Proofs.Ytjfkenjmjoncbaa.Lg
