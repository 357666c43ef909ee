import Derived.Test.YtckajljkdlejoaaDoorPAllx0
import Derived.Test.YtckajljkdlejoaaDoorPAllx10
import Derived.Test.YtckajljkdlejoaaDoorPAllx2
import Derived.Test.YtckajljkdlejoaaDoorPAllx3
import Derived.Test.YtckajljkdlejoaaDoorPAllx4
import Derived.Test.YtckajljkdlejoaaDoorPAllx5
import Derived.Test.YtckajljkdlejoaaDoorPAllx7
import Derived.Test.YtckajljkdlejoaaDoorPAllx8
import Derived.Test.YtckajljkdlejoaaDoorPAllx9
namespace Go.Proofs.YtckajljkdlejoaaDoor.PAll
open Go.RowKit Go.Proofs.YtckajljkdlejoaaDoorW.PrintWords Go.Proofs.YtckajljkdlejoaaDoorW.PrintLast Go.Proofs.YtckajljkdlejoaaDoorW.PrintMore

/-! ### contracts with a name for what is returned -/
theorem lines_x (s X : ByteArray) (m : Int) (w : World) (hs : s.size ≤ 4000000) (hm : w.cell? ⟨0, 0, none⟩ = some (.int .i64 m)) (hX : (⟨(inLn s.data.toList).toArray⟩ : ByteArray) = X) :
    Calls Tryd.prog 13 #[.string s] w fun e w' => e = .returned (.string X) ∧ Below w.heap.size w w' := by
  subst hX; exact input_Lines.runs s m w hs hm
theorem bytes_back (W : World) (s : ByteArray) (cap : Nat) (W' : World) (hb : Below (Lib.bytesWorld W 5 s).heap.size (Lib.bytesWorld W 5 s) W') :
    (convert 22 9 (.slice (some ⟨W.heap.size, 0, none⟩) s.size cap)).run Tryd.prog W' = .ok (.string s) W' := by
  have h := run_convert_bytes_arg (P := Tryd.prog) W' 22 5 Tryd.underlying22 Tryd.underlying5 W.heap.size 0 s.size cap (s.data.toList.map fun c => (c.toNat : Int)) (by rw [List.length_map]; exact in_data_len s) (fun i hi => by
    rw [Nat.zero_add]
    refine (hb.cell (p := ⟨W.heap.size, i, none⟩) (by rw [Lib.bytesWorld_size]; exact Nat.lt_succ_self _)).trans ?_
    rw [Lib.bytesWorld_cell W 5 s i hi]
    have hl : i < s.data.toList.length := by rw [in_data_len]; exact hi
    simp [List.getD_eq_getElem?_getD, List.getElem?_eq_getElem hl]) 9 Tryd.underlying9
  rw [h]
  congr 2
  apply in_ba_ext
  show ((s.data.toList.map fun c => (c.toNat : Int)).map fun n => UInt8.ofNat n.toNat).toArray.toList = _
  simp [Function.comp_def]
theorem below_bytes {w W : World} {s : ByteArray} (h : Below (Lib.bytesWorld w 5 s).heap.size (Lib.bytesWorld w 5 s) W) : Below w.heap.size w W :=
  below_step (bytes_below (Below.refl _ _) (Nat.le_refl _) 5 s) h
theorem text_b (s X : ByteArray) (m : Int) (g cap : Nat) (w : World) (hg : g = w.heap.size) (hs : s.size ≤ 1000000) (hm : w.cell? ⟨0, 0, none⟩ = some (.int .i64 m)) (hX : (⟨(inText s.data.toList).toArray⟩ : ByteArray) = X) :
    Calls Tryd.prog 15 #[.slice (some ⟨g, 0, none⟩) s.size cap] (Lib.bytesWorld w 5 s) fun e w' => e = .returned (.string X) ∧ Below w.heap.size w w' := by
  subst hX hg
  refine (input_Text.runs _ s m _ hs (pw_cell_below (bytes_below (Below.refl _ _) (Nat.le_refl _) 5 s) hm) (fun W' hb => bytes_back w s cap W' hb)).mono ?_
  rintro e w' ⟨h1, h2⟩
  exact ⟨h1, below_bytes h2⟩
theorem decode_b (s X : ByteArray) (g cap n : Nat) (w : World) (hg : g = w.heap.size) (hn : n = s.size) (hs : s.size ≤ 1000000) (hX : (⟨(inDecode s.data.toList).toArray⟩ : ByteArray) = X) :
    Calls Tryd.prog 11 #[.slice (some ⟨g, 0, none⟩) n cap] (Lib.bytesWorld w 5 s) fun e w' => e = .returned (.string X) ∧ Below w.heap.size w w' := by
  subst hX hg hn
  refine (input_Decode.runs _ s _ hs (bytes_back w s cap _ (Below.refl _ _))).mono ?_
  rintro e w' ⟨h1, h2⟩
  exact ⟨h1, below_bytes h2⟩
theorem marked_f (s : ByteArray) : marginalialaw01_marked.f s = some (inMarked s.data.toList) := by
  have hl := in_data_len s
  unfold marginalialaw01_marked.f inMarked
  match hq : s.data.toList with
  | [] => rw [hq] at hl; rw [if_neg (by simp at hl; omega)]; rfl
  | [a] => rw [hq] at hl; rw [if_neg (by simp at hl; omega)]; simp [List.isPrefixOf]
  | [a, b] => rw [hq] at hl; rw [if_neg (by simp at hl; omega)]; simp [List.isPrefixOf]
  | a :: b :: c :: r =>
    rw [hq] at hl
    have h0 : bt s 0 = (a.toNat : Int) := in_bt_get s 0 a (by rw [hq]; rfl)
    have h1 : bt s 1 = (b.toNat : Int) := in_bt_get s 1 b (by rw [hq]; rfl)
    have h2 : bt s 2 = (c.toNat : Int) := in_bt_get s 2 c (by rw [hq]; rfl)
    have u : ∀ (x y : UInt8), (x.toNat : Int) = (y.toNat : Int) ↔ x = y := fun x y => ⟨fun e => UInt8.toNat.inj (by omega), fun e => by rw [e]⟩
    have ha : ((a.toNat : Int) = 239) ↔ a = 239 := u a 239
    have hb : ((b.toNat : Int) = 187) ↔ b = 187 := u b 187
    have hc : ((c.toNat : Int) = 191) ↔ c = 191 := u c 191
    rw [if_pos (by simp at hl; omega), if_pos (by simp at hl; omega), h0, h1, h2]
    by_cases q1 : a = 239
    · rw [if_pos (ha.2 q1), if_pos (by simp at hl; omega)]
      by_cases q2 : b = 187
      · rw [if_pos (hb.2 q2), if_pos (by simp at hl; omega)]
        subst q1 q2
        by_cases q3 : c = 191
        · rw [beq_iff_eq.mpr (hc.2 q3)]; subst q3; simp [List.isPrefixOf]
        · rw [beq_eq_false_iff_ne.mpr (fun e => q3 (hc.1 e))]; simp [List.isPrefixOf]; exact fun e => q3 e.symm
      · rw [if_neg (fun e => q2 (hb.1 e))]; simp [List.isPrefixOf]; exact fun _ e => absurd e.symm q2
    · rw [if_neg (fun e => q1 (ha.1 e))]; simp [List.isPrefixOf]; exact fun e => absurd e.symm q1
theorem inText_len (l : List UInt8) : (inText l).length ≤ 3 * l.length := by
  have h1 : (inNz (inLn (inDecode l))).length ≤ (inLn (inDecode l)).length := List.length_filter_le _ _
  have h2 := inLn_len (inDecode l)
  have h3 := inDec_len (if inMarked l = true then l.drop 3 else l)
  have h4 : (if inMarked l = true then l.drop 3 else l).length ≤ l.length := by
    split
    · rw [List.length_drop]; omega
    · exact Nat.le_refl _
  show (inNz (inLn (inDecode l))).length ≤ 3 * l.length
  have h5 : (inDecode l).length ≤ 3 * l.length := Nat.le_trans h3 (by omega)
  omega
set_option maxHeartbeats 8000000 in
set_option maxRecDepth 100000 in
theorem marginalialaw01_InputLines.walked (k : Nat) (s : ByteArray) (w : World) (m : Int) (hm : w.cell? ⟨0, 0, none⟩ = some (.int .i64 m))
    (h1 : s.size ≤ 300 → marginaliaref01_Lines.f k s = some ⟨(inLn s.data.toList).toArray⟩) (h2 : s.size ≤ 300 → marginaliaref01_Text.f k s = some ⟨(inText s.data.toList).toArray⟩) :
    Calls Tryd.prog 4 #[.string s] w fun e w' => e = .returned (.bool true) ∧ Below w.heap.size w w' := by
  have HM := Aside0.mk hm
  have HB := Aside0.mk (Below.refl w.heap.size w)
  clear hm
  by_cases c2 : (s.size : Int) > 300
  · have c2b0 : decide (300 < (s.size : Int)) = true := decide_eq_true c2
    have c2b1 : decide (300 < s.size) = true := decide_eq_true (by omega)
    clear c2 h1 h2
    go_enter Tryd.func4, Tryd.ntmps4
    go_wp2_with (first | (go_at_call 10; (with_reducible refine (marginalialaw01_alive.runs m _ ?hmS).mono ?_); (case hmS => exact pw_cell_below HB.out HM.out); rintro e w1 ⟨rfl, hb⟩; have n0_ := Aside0.mk (below_step HB.out hb); clear HB hb; have HB := n0_; clear n0_))
    go_ret
    exact ⟨rfl, HB.out⟩
  · have c2b0 : decide (300 < (s.size : Int)) = false := decide_eq_false c2
    have c2b1 : decide (300 < s.size) = false := decide_eq_false (by omega)
    have hs : s.size ≤ 300 := by omega
    have g1 := h1 hs
    have g2 := h2 hs
    clear h1 h2 c2
    obtain ⟨X, hX⟩ : ∃ X : ByteArray, (⟨(inLn s.data.toList).toArray⟩ : ByteArray) = X := ⟨_, rfl⟩
    obtain ⟨Y, hY⟩ : ∃ X : ByteArray, (⟨(inText s.data.toList).toArray⟩ : ByteArray) = X := ⟨_, rfl⟩
    rw [hX] at g1
    rw [hY] at g2
    have AX := Aside0.mk hX
    have AY := Aside0.mk hY
    have A1 := Aside0.mk g1
    have A2 := Aside0.mk g2
    have HS := Aside0.mk hs
    clear hX hY g1 g2 hs
    have hcv := fun W s => Lib.run_convert_string_bytes (P := Tryd.prog) W 9 22 5 s Tryd.underlying9 Tryd.underlying22 Tryd.underlying5
    go_enter Tryd.func4, Tryd.ntmps4
    go_wp2_with (first | (go_at_call 10; (with_reducible refine (marginalialaw01_alive.runs m _ ?hmS).mono ?_); (case hmS => exact pw_cell_below HB.out HM.out); rintro e w2 ⟨rfl, hb⟩; have n0_ := Aside0.mk (below_step HB.out hb); clear HB hb; have HB := n0_; clear n0_) | (go_at_call 13; (with_reducible refine (lines_x s X m _ (by have := HS.out; omega) ?hmS AX.out).mono ?_); (case hmS => exact pw_cell_below HB.out HM.out); rintro e w3 ⟨rfl, hb⟩; have n0_ := Aside0.mk (below_step HB.out hb); clear HB hb; have HB := n0_; clear n0_) | (go_at_call 14; (with_reducible refine (marginaliaref01_Lines.calls k s X _ A1.out).mono ?_); rintro e w' ⟨rfl, ⟨nd, rfl⟩⟩; have n0_ := Aside0.mk (pw_below_drewN HB.out nd); clear HB; have HB := n0_; clear n0_) | (go_at_call 15; (with_reducible refine (text_b s Y m _ _ _ ?hg (by have := HS.out; omega) ?hmS AY.out).mono ?_); (case hg => first | rfl | (simp; done)); (case hmS => exact pw_cell_below HB.out HM.out); rintro e w4 ⟨rfl, hb⟩; have n0_ := Aside0.mk (below_step HB.out hb); clear HB hb; have HB := n0_; clear n0_) | (go_at_call 16; (with_reducible refine (marginaliaref01_Text.calls k s Y _ A2.out).mono ?_); rintro e w' ⟨rfl, ⟨nd, rfl⟩⟩; have n0_ := Aside0.mk (pw_below_drewN HB.out nd); clear HB; have HB := n0_; clear n0_))
    go_ret
    exact ⟨by first | rfl | (simp; done), HB.out⟩
set_option maxHeartbeats 8000000 in
set_option maxRecDepth 100000 in
theorem marginalialaw01_InputTidy.walked (s : ByteArray) (w : World) (m : Int) (hm : w.cell? ⟨0, 0, none⟩ = some (.int .i64 m)) :
    Calls Tryd.prog 6 #[.string s] w fun e w' => e = .returned (.bool true) ∧ Below w.heap.size w w' := by
  have HM := Aside0.mk hm
  have HB := Aside0.mk (Below.refl w.heap.size w)
  clear hm
  by_cases c2 : (s.size : Int) > 300
  · have c2b0 : decide (300 < (s.size : Int)) = true := decide_eq_true c2
    have c2b1 : decide (300 < s.size) = true := decide_eq_true (by omega)
    clear c2
    go_enter Tryd.func6, Tryd.ntmps6
    go_wp2_with (first | (go_at_call 10; (with_reducible refine (marginalialaw01_alive.runs m _ ?hmS).mono ?_); (case hmS => exact pw_cell_below HB.out HM.out); rintro e w5 ⟨rfl, hb⟩; have n0_ := Aside0.mk (below_step HB.out hb); clear HB hb; have HB := n0_; clear n0_))
    go_ret
    exact ⟨rfl, HB.out⟩
  · have c2b0 : decide (300 < (s.size : Int)) = false := decide_eq_false c2
    have c2b1 : decide (300 < s.size) = false := decide_eq_false (by omega)
    have hs : s.size ≤ 300 := by omega
    clear c2
    obtain ⟨T, hT⟩ : ∃ X : ByteArray, (⟨(inText s.data.toList).toArray⟩ : ByteArray) = X := ⟨_, rfl⟩
    obtain ⟨L, hL⟩ : ∃ X : ByteArray, (⟨(inLn s.data.toList).toArray⟩ : ByteArray) = X := ⟨_, rfl⟩
    have hTd : T.data.toList = inText s.data.toList := by rw [← hT]
    have hLd : L.data.toList = inLn s.data.toList := by rw [← hL]
    have hTz : T.size ≤ 1000000 := by
      have h1 := inText_len s.data.toList
      rw [← hTd, in_data_len, in_data_len] at h1
      omega
    have hLz : L.size ≤ s.size := by
      have h1 := inLn_len s.data.toList
      rw [← hLd, in_data_len, in_data_len] at h1
      exact h1
    have hLL : (⟨(inLn L.data.toList).toArray⟩ : ByteArray) = L := by
      apply in_ba_ext
      show inLn L.data.toList = L.data.toList
      rw [hLd]
      exact inLn_id _ (inLn_no _)
    have hno : ∀ (i : Nat) (c : UInt8), T.data.toList[i]? = some c → (c.toNat : Int) ≠ 0 ∧ (c.toNat : Int) ≠ 13 := by
      intro i c hc
      rw [hTd] at hc
      have := inText_no s.data.toList c (List.mem_of_getElem? hc)
      refine ⟨fun e => this.1 (UInt8.toNat.inj (show _ = 0 by omega)), fun e => this.2 (UInt8.toNat.inj (show _ = 13 by omega))⟩
    have AT := Aside0.mk hT
    have AL := Aside0.mk hL
    have ALL := Aside0.mk hLL
    have ANO := Aside0.mk hno
    have HS := Aside0.mk hs
    have HTZ := Aside0.mk hTz
    have q1 : decide (s.size < L.size) = false := decide_eq_false (by omega)
    have q2 : decide ((s.size : Int) < (L.size : Int)) = false := decide_eq_false (by omega)
    have HLZ := Aside0.mk (show L.size ≤ 4000000 by omega)
    have hTz2 : T.size ≤ 9223372036854775807 := by omega
    have AG := Aside0.mk (show inMarked T.data.toList = false → (⟨(inText T.data.toList).toArray⟩ : ByteArray) = T from fun h => by
      apply in_ba_ext
      show inText T.data.toList = T.data.toList
      rw [hTd] at h ⊢
      exact inText_again _ h)
    have AM := Aside0.mk (marked_f T)
    clear hT hL hTd hLd hLL hno hs hTz hLz
    have hcv := fun W s => Lib.run_convert_string_bytes (P := Tryd.prog) W 9 22 5 s Tryd.underlying9 Tryd.underlying22 Tryd.underlying5
    go_enter Tryd.func6, Tryd.ntmps6
    go_wp2_with (first | (go_at_call 15; (with_reducible refine (text_b s T m _ _ _ ?hg (by have := HS.out; omega) ?hmS AT.out).mono ?_); (case hg => first | rfl | (simp; done)); (case hmS => exact pw_cell_below HB.out HM.out); rintro e w6 ⟨rfl, hb⟩; have n0_ := Aside0.mk (below_step HB.out hb); clear HB hb; have HB := n0_; clear n0_))
    go_loopw [4] (fun v wr => ∃ j : Nat, j ≤ T.size ∧ v = .int .i64 j ∧ Aside0 (Below w.heap.size w wr)) (fun v _ => T.size - (intOf v).toNat)
    case atStart => exact ⟨0, Nat.zero_le _, rfl, HB⟩
    case round =>
      clear HB
      obtain ⟨j, hj, rfl, HB⟩ := hrel
      by_cases hlt : j < T.size
      · obtain ⟨c, hc⟩ : ∃ c, T.data.toList[j]? = some c := ⟨_, List.getElem?_eq_getElem (by rw [in_data_len]; exact hlt)⟩
        have hn := ANO.out j c hc
        have hbt := in_bt_get T j c hc
        have cq : decide ((j : Int) < (T.size : Int)) = true := decide_eq_true (by omega)
        have hcj : T[j] = c := by
          have h2 : T.data.toList[j]? = some (T.data.toList[j]'(by rw [in_data_len]; exact hlt)) := List.getElem?_eq_getElem _
          rw [hc] at h2
          rw [Option.some.inj h2]
          rfl
        have b0 : (((T[j]'hlt).toNat : Int) == 0) = false := by rw [hcj]; exact beq_eq_false_iff_ne.mpr hn.1
        have b13 : (((T[j]'hlt).toNat : Int) == 13) = false := by rw [hcj]; exact beq_eq_false_iff_ne.mpr hn.2
        clear hn hc hbt hcj
        go_wp2
        go_roundw
        case rel => exact ⟨j + 1, by omega, by go_num, HB⟩
        case measure => simp [intOf]; omega
      · obtain rfl : j = T.size := by omega
        by_cases hmk : inMarked T.data.toList = true
        · have am := AM.out
          rw [hmk] at am
          have A1 := Aside0.mk am
          clear am hmk AM AG
          go_wp2_with (first | (go_at_call 13; (with_reducible refine (lines_x s L m _ (by have := HS.out; omega) ?hmS AL.out).mono ?_); (case hmS => exact pw_cell_below HB.out HM.out); rintro e w7 ⟨rfl, hb⟩; have n0_ := Aside0.mk (below_step HB.out hb); clear HB hb; have HB := n0_; clear n0_) | (go_at_call 13; (with_reducible refine (lines_x L L m _ HLZ.out ?hmS ALL.out).mono ?_); (case hmS => exact pw_cell_below HB.out HM.out); rintro e w8 ⟨rfl, hb⟩; have n0_ := Aside0.mk (below_step HB.out hb); clear HB hb; have HB := n0_; clear n0_) | (go_at_call 10; (with_reducible refine (marginalialaw01_alive.runs m _ ?hmS).mono ?_); (case hmS => exact pw_cell_below HB.out HM.out); rintro e w9 ⟨rfl, hb⟩; have n0_ := Aside0.mk (below_step HB.out hb); clear HB hb; have HB := n0_; clear n0_) | (go_at_call 17; (with_reducible refine (marginalialaw01_marked.calls T true _ A1.out).mono ?_); rintro e w' ⟨rfl, ⟨nd, rfl⟩⟩; have n0_ := Aside0.mk (pw_below_drewN HB.out nd); clear HB; have HB := n0_; clear n0_))
          go_ret
          exact ⟨by first | rfl | (simp; done), HB.out⟩
        · replace hmk := Bool.eq_false_iff.mpr hmk
          have am := AM.out
          rw [hmk] at am
          have A1 := Aside0.mk am
          have A2 := Aside0.mk (AG.out hmk)
          clear am hmk AM AG
          go_wp2_with (first | (go_at_call 13; (with_reducible refine (lines_x s L m _ (by have := HS.out; omega) ?hmS AL.out).mono ?_); (case hmS => exact pw_cell_below HB.out HM.out); rintro e w10 ⟨rfl, hb⟩; have n0_ := Aside0.mk (below_step HB.out hb); clear HB hb; have HB := n0_; clear n0_) | (go_at_call 13; (with_reducible refine (lines_x L L m _ HLZ.out ?hmS ALL.out).mono ?_); (case hmS => exact pw_cell_below HB.out HM.out); rintro e w11 ⟨rfl, hb⟩; have n0_ := Aside0.mk (below_step HB.out hb); clear HB hb; have HB := n0_; clear n0_) | (go_at_call 10; (with_reducible refine (marginalialaw01_alive.runs m _ ?hmS).mono ?_); (case hmS => exact pw_cell_below HB.out HM.out); rintro e w12 ⟨rfl, hb⟩; have n0_ := Aside0.mk (below_step HB.out hb); clear HB hb; have HB := n0_; clear n0_) | (go_at_call 17; (with_reducible refine (marginalialaw01_marked.calls T false _ A1.out).mono ?_); rintro e w' ⟨rfl, ⟨nd, rfl⟩⟩; have n0_ := Aside0.mk (pw_below_drewN HB.out nd); clear HB; have HB := n0_; clear n0_) | (go_at_call 15; (with_reducible refine (text_b T T m _ _ _ ?hg HTZ.out ?hmS A2.out).mono ?_); (case hg => first | rfl | (simp; done)); (case hmS => exact pw_cell_below HB.out HM.out); rintro e w13 ⟨rfl, hb⟩; have n0_ := Aside0.mk (below_step HB.out hb); clear HB hb; have HB := n0_; clear n0_))
          go_ret
          exact ⟨by first | rfl | (simp; done), HB.out⟩
set_option maxHeartbeats 8000000 in
set_option maxRecDepth 100000 in
theorem marginalialaw01_InputRight.walked (k : Nat) (s : ByteArray) (w : World) (m : Int) (hm : w.cell? ⟨0, 0, none⟩ = some (.int .i64 m))
    (h1 : s.size ≤ 300 → inMarked s.data.toList = false → ∃ n : Int, input_Count.f k s = some n ∧ input_Count.f k ⟨(inDecode s.data.toList).toArray⟩ = some n) :
    Calls Tryd.prog 9 #[.string s] w fun e w' => e = .returned (.bool true) ∧ Below w.heap.size w w' := by
  have HM := Aside0.mk hm
  have HB := Aside0.mk (Below.refl w.heap.size w)
  clear hm
  by_cases c2 : (s.size : Int) > 300
  · have c2b0 : decide (300 < (s.size : Int)) = true := decide_eq_true c2
    have c2b1 : decide (300 < s.size) = true := decide_eq_true (by omega)
    clear c2 h1
    go_enter Tryd.func9, Tryd.ntmps9
    go_wp2_with (first | (go_at_call 10; (with_reducible refine (marginalialaw01_alive.runs m _ ?hmS).mono ?_); (case hmS => exact pw_cell_below HB.out HM.out); rintro e w14 ⟨rfl, hb⟩; have n0_ := Aside0.mk (below_step HB.out hb); clear HB hb; have HB := n0_; clear n0_))
    go_ret
    exact ⟨rfl, HB.out⟩
  · have c2b0 : decide (300 < (s.size : Int)) = false := decide_eq_false c2
    have c2b1 : decide (300 < s.size) = false := decide_eq_false (by omega)
    have hs : s.size ≤ 300 := by omega
    clear c2
    have am := marked_f s
    by_cases hmk : inMarked s.data.toList = true
    · rw [hmk] at am
      have A1 := Aside0.mk am
      clear am hmk h1
      go_enter Tryd.func9, Tryd.ntmps9
      go_wp2_with (first | (go_at_call 10; (with_reducible refine (marginalialaw01_alive.runs m _ ?hmS).mono ?_); (case hmS => exact pw_cell_below HB.out HM.out); rintro e w15 ⟨rfl, hb⟩; have n0_ := Aside0.mk (below_step HB.out hb); clear HB hb; have HB := n0_; clear n0_) | (go_at_call 17; (with_reducible refine (marginalialaw01_marked.calls s true _ A1.out).mono ?_); rintro e w' ⟨rfl, ⟨nd, rfl⟩⟩; have n0_ := Aside0.mk (pw_below_drewN HB.out nd); clear HB; have HB := n0_; clear n0_))
      go_ret
      exact ⟨rfl, HB.out⟩
    · replace hmk := Bool.eq_false_iff.mpr hmk
      rw [hmk] at am
      obtain ⟨n, g1, g2⟩ := h1 hs hmk
      obtain ⟨D, hD⟩ : ∃ X : ByteArray, (⟨(inDecode s.data.toList).toArray⟩ : ByteArray) = X := ⟨_, rfl⟩
      obtain ⟨T, hT⟩ : ∃ X : ByteArray, (⟨(inText s.data.toList).toArray⟩ : ByteArray) = X := ⟨_, rfl⟩
      rw [hD] at g2
      have hdec : inDecode s.data.toList = inDec s.data.toList := by unfold inDecode; rw [hmk]; simp
      have hDd : D.data.toList = inDec s.data.toList := by rw [← hD, ← hdec]
      have hTd : T.data.toList = inText s.data.toList := by rw [← hT]
      have hDz : D.size ≤ 4000000 := by
        have h1 := inDec_len s.data.toList
        rw [← hDd, in_data_len, in_data_len] at h1
        omega
      have hTz : T.size ≤ 4000000 := by
        have h1 := inText_len s.data.toList
        rw [← hTd, in_data_len, in_data_len] at h1
        omega
      have v1 : input_Valid.f D = some true := by unfold input_Valid.f; rw [if_pos hDz, hDd, (inVal_dec _).1]
      have v2 : input_Valid.f T = some true := by unfold input_Valid.f; rw [if_pos hTz, hTd, inText_val]
      have v3 : input_Valid.f s = some (inVal s.data.toList) := by unfold input_Valid.f; rw [if_pos (by omega)]
      have v4 : (D.toList == s.toList) = inVal s.data.toList := by
        rw [in_bytes_data, in_bytes_data, hDd, Bool.eq_iff_iff, beq_iff_eq]
        exact inDec_iff _
      have A1 := Aside0.mk am
      have AD := Aside0.mk hD
      have AT := Aside0.mk hT
      have HS := Aside0.mk hs
      have V1 := Aside0.mk v1
      have V2 := Aside0.mk v2
      have V3 := Aside0.mk v3
      have G1 := Aside0.mk g1
      have G2 := Aside0.mk g2
      clear am hmk h1 hD hT hdec hDd hTd hDz hTz v1 v2 v3 g1 g2 hs
      generalize inVal s.data.toList = b at v4 V3
      have hcv := fun W s => Lib.run_convert_string_bytes (P := Tryd.prog) W 9 22 5 s Tryd.underlying9 Tryd.underlying22 Tryd.underlying5
      cases b with
      | true =>
        go_enter Tryd.func9, Tryd.ntmps9
        go_wp2_with (first | (go_at_call 17; (with_reducible refine (marginalialaw01_marked.calls s false _ A1.out).mono ?_); rintro e w' ⟨rfl, ⟨nd, rfl⟩⟩; have n0_ := Aside0.mk (pw_below_drewN HB.out nd); clear HB; have HB := n0_; clear n0_) | (go_at_call 11; (with_reducible refine (decode_b s D _ _ _ _ ?hg ?hn (by have := HS.out; omega) AD.out).mono ?_); (case hg => first | rfl | (simp; done)); (case hn => first | rfl | (simp; done)); rintro e w16 ⟨rfl, hb⟩; have n0_ := Aside0.mk (below_step HB.out hb); clear HB hb; have HB := n0_; clear n0_) | (go_at_call 15; (with_reducible refine (text_b s T m _ _ _ ?hg (by have := HS.out; omega) ?hmS AT.out).mono ?_); (case hg => first | rfl | (simp; done)); (case hmS => exact pw_cell_below HB.out HM.out); rintro e w17 ⟨rfl, hb⟩; have n0_ := Aside0.mk (below_step HB.out hb); clear HB hb; have HB := n0_; clear n0_) | (go_at_call 10; (with_reducible refine (marginalialaw01_alive.runs m _ ?hmS).mono ?_); (case hmS => exact pw_cell_below HB.out HM.out); rintro e w18 ⟨rfl, hb⟩; have n0_ := Aside0.mk (below_step HB.out hb); clear HB hb; have HB := n0_; clear n0_) | (go_at_call 18; (with_reducible refine (input_Valid.calls D true _ V1.out).mono ?_); rintro e w19 ⟨rfl, hb⟩; have n0_ := Aside0.mk (below_step HB.out hb); clear HB hb; have HB := n0_; clear n0_) | (go_at_call 18; (with_reducible refine (input_Valid.calls T true _ V2.out).mono ?_); rintro e w20 ⟨rfl, hb⟩; have n0_ := Aside0.mk (below_step HB.out hb); clear HB hb; have HB := n0_; clear n0_) | (go_at_call 18; (with_reducible refine (input_Valid.calls s true _ V3.out).mono ?_); rintro e w21 ⟨rfl, hb⟩; have n0_ := Aside0.mk (below_step HB.out hb); clear HB hb; have HB := n0_; clear n0_) | (go_at_call 20; (with_reducible refine (input_Count.calls k D n _ G2.out).mono ?_); rintro e w' ⟨rfl, ⟨nd, rfl⟩⟩; have n0_ := Aside0.mk (pw_below_drewN HB.out nd); clear HB; have HB := n0_; clear n0_) | (go_at_call 20; (with_reducible refine (input_Count.calls k s n _ G1.out).mono ?_); rintro e w' ⟨rfl, ⟨nd, rfl⟩⟩; have n0_ := Aside0.mk (pw_below_drewN HB.out nd); clear HB; have HB := n0_; clear n0_))
        go_ret
        exact ⟨by first | rfl | (simp; done), by first | exact HB.out | (have := HB.out; simpa using this)⟩
      | false =>
        go_enter Tryd.func9, Tryd.ntmps9
        go_wp2_with (first | (go_at_call 17; (with_reducible refine (marginalialaw01_marked.calls s false _ A1.out).mono ?_); rintro e w' ⟨rfl, ⟨nd, rfl⟩⟩; have n0_ := Aside0.mk (pw_below_drewN HB.out nd); clear HB; have HB := n0_; clear n0_) | (go_at_call 11; (with_reducible refine (decode_b s D _ _ _ _ ?hg ?hn (by have := HS.out; omega) AD.out).mono ?_); (case hg => first | rfl | (simp; done)); (case hn => first | rfl | (simp; done)); rintro e w22 ⟨rfl, hb⟩; have n0_ := Aside0.mk (below_step HB.out hb); clear HB hb; have HB := n0_; clear n0_) | (go_at_call 15; (with_reducible refine (text_b s T m _ _ _ ?hg (by have := HS.out; omega) ?hmS AT.out).mono ?_); (case hg => first | rfl | (simp; done)); (case hmS => exact pw_cell_below HB.out HM.out); rintro e w23 ⟨rfl, hb⟩; have n0_ := Aside0.mk (below_step HB.out hb); clear HB hb; have HB := n0_; clear n0_) | (go_at_call 10; (with_reducible refine (marginalialaw01_alive.runs m _ ?hmS).mono ?_); (case hmS => exact pw_cell_below HB.out HM.out); rintro e w24 ⟨rfl, hb⟩; have n0_ := Aside0.mk (below_step HB.out hb); clear HB hb; have HB := n0_; clear n0_) | (go_at_call 18; (with_reducible refine (input_Valid.calls D true _ V1.out).mono ?_); rintro e w25 ⟨rfl, hb⟩; have n0_ := Aside0.mk (below_step HB.out hb); clear HB hb; have HB := n0_; clear n0_) | (go_at_call 18; (with_reducible refine (input_Valid.calls T true _ V2.out).mono ?_); rintro e w26 ⟨rfl, hb⟩; have n0_ := Aside0.mk (below_step HB.out hb); clear HB hb; have HB := n0_; clear n0_) | (go_at_call 18; (with_reducible refine (input_Valid.calls s false _ V3.out).mono ?_); rintro e w27 ⟨rfl, hb⟩; have n0_ := Aside0.mk (below_step HB.out hb); clear HB hb; have HB := n0_; clear n0_) | (go_at_call 20; (with_reducible refine (input_Count.calls k D n _ G2.out).mono ?_); rintro e w' ⟨rfl, ⟨nd, rfl⟩⟩; have n0_ := Aside0.mk (pw_below_drewN HB.out nd); clear HB; have HB := n0_; clear n0_) | (go_at_call 20; (with_reducible refine (input_Count.calls k s n _ G1.out).mono ?_); rintro e w' ⟨rfl, ⟨nd, rfl⟩⟩; have n0_ := Aside0.mk (pw_below_drewN HB.out nd); clear HB; have HB := n0_; clear n0_))
        go_ret
        exact ⟨by first | rfl | (simp; done), by first | exact HB.out | (have := HB.out; simpa using this)⟩
set_option maxHeartbeats 8000000 in
set_option maxRecDepth 100000 in
theorem marginalialaw01_InputBehind.walked (a : ByteArray) (A0 : Option Addr) (c0 : Nat) (l0 : List Int) (w : World) (hr0 : Kd.C (Kd.int .u8) w A0 l0.length l0) (hc0 : l0.length ≤ c0) (m : Int) (hm : w.cell? ⟨0, 0, none⟩ = some (.int .i64 m)) :
    Calls Tryd.prog 8 #[.string a, .slice A0 l0.length c0] w fun e w' => e = .returned (.bool true) ∧ Below w.heap.size w w' := by
  have HM := Aside0.mk hm
  have HB := Aside0.mk (Below.refl w.heap.size w)
  have HR0 := Aside0.mk hr0
  have HC0 := Aside0.mk hc0
  clear hm hr0 hc0
  obtain ⟨B, hB⟩ : ∃ B, strOfNums l0 = B := ⟨_, rfl⟩
  have hBz : B.size = l0.length := by rw [← hB]; exact strOf_size l0
  have CV := Aside0.mk (fun W (hb : Below w.heap.size w W) => (Kd.C_string (P := Tryd.prog) (A := A0) (c := c0) Tryd.underlying22 Tryd.underlying5 Tryd.underlying9 (Kd.C_below HR0.out hb)).trans (by rw [hB]) : ∀ W, Below w.heap.size w W → (convert 22 9 (.slice A0 l0.length c0)).run Tryd.prog W = .ok (.string B) W)
  have HBB := Aside0.mk hB
  clear hB
  have hcv0 := CV.out _ HB.out
  have hcv1 := fun n => CV.out _ (pw_below_drewN HB.out n)
  by_cases c1 : (a.size : Int) > 300
  · have c1b0 : decide (300 < (a.size : Int)) = true := decide_eq_true c1
    have c1b1 : decide (300 < a.size) = true := decide_eq_true (by omega)
    clear c1 hBz
    go_enter Tryd.func8, Tryd.ntmps8
    go_wp2_with (first | (go_at_call 10; (with_reducible refine (marginalialaw01_alive.runs m _ ?hmS).mono ?_); (case hmS => exact pw_cell_below (by first | exact HB.out | (have := HB.out; simpa using this)) HM.out); rintro e w28 ⟨rfl, hb⟩; have n0_ := Aside0.mk (below_step (by first | exact HB.out | (have := HB.out; simpa using this)) hb); clear HB hb; have HB := n0_; clear n0_; (try clear hcv0 hcv1); have hcv0 := CV.out _ HB.out; have hcv1 := fun n => CV.out _ (pw_below_drewN HB.out n)))
    go_ret
    exact ⟨by first | rfl | (simp; done), by first | exact HB.out | (have := HB.out; simpa using this)⟩
  have c1b0 : decide (300 < (a.size : Int)) = false := decide_eq_false c1
  have c1b1 : decide (300 < a.size) = false := decide_eq_false (by omega)
  by_cases c2 : (l0.length : Int) > 300
  · have c2b0 : decide (300 < (l0.length : Int)) = true := decide_eq_true c2
    have c2b1 : decide (300 < l0.length) = true := decide_eq_true (by omega)
    clear c1 c2 hBz
    go_enter Tryd.func8, Tryd.ntmps8
    go_wp2_with (first | (go_at_call 10; (with_reducible refine (marginalialaw01_alive.runs m _ ?hmS).mono ?_); (case hmS => exact pw_cell_below (by first | exact HB.out | (have := HB.out; simpa using this)) HM.out); rintro e w29 ⟨rfl, hb⟩; have n0_ := Aside0.mk (below_step (by first | exact HB.out | (have := HB.out; simpa using this)) hb); clear HB hb; have HB := n0_; clear n0_; (try clear hcv0 hcv1); have hcv0 := CV.out _ HB.out; have hcv1 := fun n => CV.out _ (pw_below_drewN HB.out n)))
    go_ret
    exact ⟨by first | rfl | (simp; done), by first | exact HB.out | (have := HB.out; simpa using this)⟩
  have c2b0 : decide (300 < (l0.length : Int)) = false := decide_eq_false c2
  have c2b1 : decide (300 < l0.length) = false := decide_eq_false (by omega)
  have hs : a.size ≤ 300 ∧ B.size ≤ 300 := by omega
  have HS := Aside0.mk hs
  have z1 : (9223372036854775807 < a.size + B.size) = False := eq_false (by omega)
  clear c1 c2 hBz hs
  have m1 := marked_f a
  by_cases q1 : inMarked a.data.toList = true
  · rw [q1] at m1
    have A1 := Aside0.mk m1
    clear m1 q1
    go_enter Tryd.func8, Tryd.ntmps8
    go_wp2_with (first | (go_at_call 17; (with_reducible refine (marginalialaw01_marked.calls a true _ A1.out).mono ?_); rintro e w' ⟨rfl, ⟨nd, rfl⟩⟩; have n0_ := Aside0.mk (pw_below_drewN HB.out nd); clear HB; have HB := n0_; clear n0_) | (go_at_call 10; (with_reducible refine (marginalialaw01_alive.runs m _ ?hmS).mono ?_); (case hmS => exact pw_cell_below (by first | exact HB.out | (have := HB.out; simpa using this)) HM.out); rintro e w30 ⟨rfl, hb⟩; have n0_ := Aside0.mk (below_step (by first | exact HB.out | (have := HB.out; simpa using this)) hb); clear HB hb; have HB := n0_; clear n0_; (try clear hcv0 hcv1); have hcv0 := CV.out _ HB.out; have hcv1 := fun n => CV.out _ (pw_below_drewN HB.out n)))
    go_ret
    exact ⟨by first | rfl | (simp; done), by first | exact HB.out | (have := HB.out; simpa using this)⟩
  replace q1 := Bool.eq_false_iff.mpr q1
  rw [q1] at m1
  have A1 := Aside0.mk m1
  have Q1 := Aside0.mk q1
  clear m1 q1
  have m2 := marked_f B
  by_cases q2 : inMarked B.data.toList = true
  · rw [q2] at m2
    have A2 := Aside0.mk m2
    clear m2 q2
    go_enter Tryd.func8, Tryd.ntmps8
    go_wp2_with (first | (go_at_call 17; (with_reducible refine (marginalialaw01_marked.calls a false _ A1.out).mono ?_); rintro e w' ⟨rfl, ⟨nd, rfl⟩⟩; have n0_ := Aside0.mk (pw_below_drewN HB.out nd); clear HB; have HB := n0_; clear n0_) | (go_at_call 17; (with_reducible refine (marginalialaw01_marked.calls B true _ A2.out).mono ?_); rintro e w' ⟨rfl, ⟨nd, rfl⟩⟩; have n0_ := Aside0.mk (pw_below_drewN HB.out nd); clear HB; have HB := n0_; clear n0_) | (go_at_call 10; (with_reducible refine (marginalialaw01_alive.runs m _ ?hmS).mono ?_); (case hmS => exact pw_cell_below (by first | exact HB.out | (have := HB.out; simpa using this)) HM.out); rintro e w31 ⟨rfl, hb⟩; have n0_ := Aside0.mk (below_step (by first | exact HB.out | (have := HB.out; simpa using this)) hb); clear HB hb; have HB := n0_; clear n0_; (try clear hcv0 hcv1); have hcv0 := CV.out _ HB.out; have hcv1 := fun n => CV.out _ (pw_below_drewN HB.out n)))
    go_ret
    exact ⟨by first | rfl | (simp; done), by first | exact HB.out | (have := HB.out; simpa using this)⟩
  replace q2 := Bool.eq_false_iff.mpr q2
  rw [q2] at m2
  have A2 := Aside0.mk m2
  have Q2 := Aside0.mk q2
  clear m2 q2
  have m3 := marked_f (a ++ B)
  by_cases q3 : inMarked (a ++ B).data.toList = true
  · rw [q3] at m3
    have A3 := Aside0.mk m3
    clear m3 q3
    go_enter Tryd.func8, Tryd.ntmps8
    go_wp2_with (first | (go_at_call 17; (with_reducible refine (marginalialaw01_marked.calls a false _ A1.out).mono ?_); rintro e w' ⟨rfl, ⟨nd, rfl⟩⟩; have n0_ := Aside0.mk (pw_below_drewN HB.out nd); clear HB; have HB := n0_; clear n0_) | (go_at_call 17; (with_reducible refine (marginalialaw01_marked.calls B false _ A2.out).mono ?_); rintro e w' ⟨rfl, ⟨nd, rfl⟩⟩; have n0_ := Aside0.mk (pw_below_drewN HB.out nd); clear HB; have HB := n0_; clear n0_) | (go_at_call 17; (with_reducible refine (marginalialaw01_marked.calls (a ++ B) true _ A3.out).mono ?_); rintro e w' ⟨rfl, ⟨nd, rfl⟩⟩; have n0_ := Aside0.mk (pw_below_drewN HB.out nd); clear HB; have HB := n0_; clear n0_) | (go_at_call 10; (with_reducible refine (marginalialaw01_alive.runs m _ ?hmS).mono ?_); (case hmS => exact pw_cell_below (by first | exact HB.out | (have := HB.out; simpa using this)) HM.out); rintro e w32 ⟨rfl, hb⟩; have n0_ := Aside0.mk (below_step (by first | exact HB.out | (have := HB.out; simpa using this)) hb); clear HB hb; have HB := n0_; clear n0_; (try clear hcv0 hcv1); have hcv0 := CV.out _ HB.out; have hcv1 := fun n => CV.out _ (pw_below_drewN HB.out n)))
    go_ret
    exact ⟨by first | rfl | (simp; done), by first | exact HB.out | (have := HB.out; simpa using this)⟩
  replace q3 := Bool.eq_false_iff.mpr q3
  rw [q3] at m3
  have A3 := Aside0.mk m3
  have Q3 := Aside0.mk q3
  clear m3 q3
  have v1 : input_Valid.f a = some (inVal a.data.toList) := by unfold input_Valid.f; rw [if_pos (by have := HS.out; omega)]
  by_cases q4 : inVal a.data.toList = true
  · rw [q4] at v1
    have V1 := Aside0.mk v1
    obtain ⟨X, hX⟩ : ∃ X : ByteArray, (⟨(inDecode (a ++ B).data.toList).toArray⟩ : ByteArray) = X := ⟨_, rfl⟩
    obtain ⟨Y, hY⟩ : ∃ X : ByteArray, (⟨(inDecode B.data.toList).toArray⟩ : ByteArray) = X := ⟨_, rfl⟩
    have f1 : input_Decode.f l0 = some Y := by
      unfold input_Decode.f
      rw [if_pos (by have h1 := HS.out; have h2 := strOf_size l0; rw [HBB.out] at h2; omega), HBB.out, hY]
    have e1 : X = a ++ Y := by
      apply in_ba_ext
      rw [← hX, ← hY]
      have d1 : inDecode (a ++ B).data.toList = inDec (a ++ B).data.toList := by unfold inDecode; rw [Q3.out]; simp
      have d2 : inDecode B.data.toList = inDec B.data.toList := by unfold inDecode; rw [Q2.out]; simp
      show inDecode (a ++ B).data.toList = _
      rw [d1, d2]
      have d3 : (a ++ B).data.toList = a.data.toList ++ B.data.toList := by simp
      rw [d3, inDec_append _ _ q4]
      simp
    have e2 : (X.toList == (a ++ Y).toList) = true := by rw [e1]; simp
    have hYz : Y.size ≤ 1000 := by
      have h1 := inDec_len B.data.toList
      rw [in_data_len] at h1
      rw [← hY]
      show (inDecode B.data.toList).length ≤ _
      have d2 : inDecode B.data.toList = inDec B.data.toList := by unfold inDecode; rw [Q2.out]; simp
      have := HS.out
      rw [d2]; omega
    have z2 : (9223372036854775807 < a.size + Y.size) = False := eq_false (by have := HS.out; omega)
    have hXs : (a ++ B).size ≤ 1000000 := by rw [ByteArray.size_append]; have := HS.out; omega
    have AX := Aside0.mk hX
    have AF := Aside0.mk f1
    have AXS := Aside0.mk hXs
    clear v1 q4 hX hY f1 e1 hYz hXs
    have hcv := fun W s => Lib.run_convert_string_bytes (P := Tryd.prog) W 9 22 5 s Tryd.underlying9 Tryd.underlying22 Tryd.underlying5
    go_enter Tryd.func8, Tryd.ntmps8
    go_wp2_with (first | (go_at_call 17; (with_reducible refine (marginalialaw01_marked.calls a false _ A1.out).mono ?_); rintro e w' ⟨rfl, ⟨nd, rfl⟩⟩; have n0_ := Aside0.mk (pw_below_drewN HB.out nd); clear HB; have HB := n0_; clear n0_) | (go_at_call 17; (with_reducible refine (marginalialaw01_marked.calls B false _ A2.out).mono ?_); rintro e w' ⟨rfl, ⟨nd, rfl⟩⟩; have n0_ := Aside0.mk (pw_below_drewN HB.out nd); clear HB; have HB := n0_; clear n0_) | (go_at_call 17; (with_reducible refine (marginalialaw01_marked.calls (a ++ B) false _ A3.out).mono ?_); rintro e w' ⟨rfl, ⟨nd, rfl⟩⟩; have n0_ := Aside0.mk (pw_below_drewN HB.out nd); clear HB; have HB := n0_; clear n0_) | (go_at_call 18; (with_reducible refine (input_Valid.calls a true _ V1.out).mono ?_); rintro e w33 ⟨rfl, hb⟩; have n0_ := Aside0.mk (below_step (by first | exact HB.out | (have := HB.out; simpa using this)) hb); clear HB hb; have HB := n0_; clear n0_; (try clear hcv0 hcv1); have hcv0 := CV.out _ HB.out; have hcv1 := fun n => CV.out _ (pw_below_drewN HB.out n)) | (go_at_call 10; (with_reducible refine (marginalialaw01_alive.runs m _ ?hmS).mono ?_); (case hmS => exact pw_cell_below (by first | exact HB.out | (have := HB.out; simpa using this)) HM.out); rintro e w34 ⟨rfl, hb⟩; have n0_ := Aside0.mk (below_step (by first | exact HB.out | (have := HB.out; simpa using this)) hb); clear HB hb; have HB := n0_; clear n0_; (try clear hcv0 hcv1); have hcv0 := CV.out _ HB.out; have hcv1 := fun n => CV.out _ (pw_below_drewN HB.out n)) | (go_at_call 11; (with_reducible refine (decode_b (a ++ B) X _ _ _ _ ?hg ?hn AXS.out AX.out).mono ?_); (case hg => first | rfl | (simp; done)); (case hn => first | rfl | (simp; done)); rintro e w35 ⟨rfl, hb⟩; have n0_ := Aside0.mk (below_step HB.out hb); clear HB hb; have HB := n0_; clear n0_) | (go_at_call 11; (with_reducible refine (input_Decode.calls A0 c0 l0 Y _ ?sA ?sB AF.out).mono ?_); (case sA => exact Kd.C_below HR0.out HB.out); (case sB => exact HC0.out); rintro e w36 ⟨rfl, hb⟩; have n0_ := Aside0.mk (below_step HB.out hb); clear HB hb; have HB := n0_; clear n0_))
    go_ret
    exact ⟨by first | rfl | (simp; done), by first | exact HB.out | (have := HB.out; simpa using this)⟩
  · replace q4 := Bool.eq_false_iff.mpr q4
    rw [q4] at v1
    have V1 := Aside0.mk v1
    clear v1 q4
    go_enter Tryd.func8, Tryd.ntmps8
    go_wp2_with (first | (go_at_call 17; (with_reducible refine (marginalialaw01_marked.calls a false _ A1.out).mono ?_); rintro e w' ⟨rfl, ⟨nd, rfl⟩⟩; have n0_ := Aside0.mk (pw_below_drewN HB.out nd); clear HB; have HB := n0_; clear n0_) | (go_at_call 17; (with_reducible refine (marginalialaw01_marked.calls B false _ A2.out).mono ?_); rintro e w' ⟨rfl, ⟨nd, rfl⟩⟩; have n0_ := Aside0.mk (pw_below_drewN HB.out nd); clear HB; have HB := n0_; clear n0_) | (go_at_call 17; (with_reducible refine (marginalialaw01_marked.calls (a ++ B) false _ A3.out).mono ?_); rintro e w' ⟨rfl, ⟨nd, rfl⟩⟩; have n0_ := Aside0.mk (pw_below_drewN HB.out nd); clear HB; have HB := n0_; clear n0_) | (go_at_call 18; (with_reducible refine (input_Valid.calls a false _ V1.out).mono ?_); rintro e w37 ⟨rfl, hb⟩; have n0_ := Aside0.mk (below_step (by first | exact HB.out | (have := HB.out; simpa using this)) hb); clear HB hb; have HB := n0_; clear n0_; (try clear hcv0 hcv1); have hcv0 := CV.out _ HB.out; have hcv1 := fun n => CV.out _ (pw_below_drewN HB.out n)) | (go_at_call 10; (with_reducible refine (marginalialaw01_alive.runs m _ ?hmS).mono ?_); (case hmS => exact pw_cell_below (by first | exact HB.out | (have := HB.out; simpa using this)) HM.out); rintro e w38 ⟨rfl, hb⟩; have n0_ := Aside0.mk (below_step (by first | exact HB.out | (have := HB.out; simpa using this)) hb); clear HB hb; have HB := n0_; clear n0_; (try clear hcv0 hcv1); have hcv0 := CV.out _ HB.out; have hcv1 := fun n => CV.out _ (pw_below_drewN HB.out n)))
    go_ret
    exact ⟨by first | rfl | (simp; done), by first | exact HB.out | (have := HB.out; simpa using this)⟩
/-! ### the four in the print's form -/
def marginalialaw01_InputLines.f (k : Nat) (s : ByteArray) : Option Bool := if s.size > 300 then some true else
  (marginaliaref01_Lines.f k s).bind fun x => (marginaliaref01_Text.f k s).bind fun y => if x = ⟨(inLn s.data.toList).toArray⟩ ∧ y = ⟨(inText s.data.toList).toArray⟩ then some true else none
theorem marginalialaw01_InputLines.calls (k : Nat) (s : ByteArray) (w : World) (m_ : Int) (hm_ : w.cell? ⟨0, 0, none⟩ = some (.int .i64 m_)) (h : marginalialaw01_InputLines.f k s = some true) :
    Calls Tryd.prog 4 #[.string s] w fun e w' => e = .returned (.bool true) ∧ Below w.heap.size w w' := by
  unfold marginalialaw01_InputLines.f at h
  have key : s.size ≤ 300 → marginaliaref01_Lines.f k s = some ⟨(inLn s.data.toList).toArray⟩ ∧ marginaliaref01_Text.f k s = some ⟨(inText s.data.toList).toArray⟩ := by
    intro hs
    rw [if_neg (by omega)] at h
    obtain ⟨x, hx, h⟩ := Option.bind_eq_some_iff.mp h
    obtain ⟨y, hy, h⟩ := Option.bind_eq_some_iff.mp h
    split at h
    · next hc => rw [hx, hy, hc.1, hc.2]; exact ⟨rfl, rfl⟩
    · exact absurd h (by simp)
  exact marginalialaw01_InputLines.walked k s w m_ hm_ (fun hs => (key hs).1) (fun hs => (key hs).2)
def marginalialaw01_InputTidy.f (_ : ByteArray) : Option Bool := some true
theorem marginalialaw01_InputTidy.calls (s : ByteArray) (w : World) (m_ : Int) (hm_ : w.cell? ⟨0, 0, none⟩ = some (.int .i64 m_)) (_ : marginalialaw01_InputTidy.f s = some true) :
    Calls Tryd.prog 6 #[.string s] w fun e w' => e = .returned (.bool true) ∧ Below w.heap.size w w' := marginalialaw01_InputTidy.walked s w m_ hm_
def marginalialaw01_InputRight.f (k : Nat) (s : ByteArray) : Option Bool := if s.size > 300 ∨ inMarked s.data.toList = true then some true else
  (input_Count.f k s).bind fun x => (input_Count.f k ⟨(inDecode s.data.toList).toArray⟩).bind fun y => if x = y then some true else none
theorem marginalialaw01_InputRight.calls (k : Nat) (s : ByteArray) (w : World) (m_ : Int) (hm_ : w.cell? ⟨0, 0, none⟩ = some (.int .i64 m_)) (h : marginalialaw01_InputRight.f k s = some true) :
    Calls Tryd.prog 9 #[.string s] w fun e w' => e = .returned (.bool true) ∧ Below w.heap.size w w' := by
  unfold marginalialaw01_InputRight.f at h
  refine marginalialaw01_InputRight.walked k s w m_ hm_ (fun hs hm => ?_)
  rw [if_neg (by rw [hm]; simp; omega)] at h
  obtain ⟨x, hx, h⟩ := Option.bind_eq_some_iff.mp h
  obtain ⟨y, hy, h⟩ := Option.bind_eq_some_iff.mp h
  split at h
  · next hc => exact ⟨x, hx, by rw [hy, hc]⟩
  · exact absurd h (by simp)
def marginalialaw01_InputBehind.f (_ : ByteArray) (_ : List Int) : Option Bool := some true
theorem marginalialaw01_InputBehind.calls (a : ByteArray) (A0 : Option Addr) (c0 : Nat) (l0 : List Int) (w : World) (hr0 : Kd.C (Kd.int .u8) w A0 l0.length l0) (hc0 : l0.length ≤ c0) (m_ : Int) (hm_ : w.cell? ⟨0, 0, none⟩ = some (.int .i64 m_)) (_ : marginalialaw01_InputBehind.f a l0 = some true) :
    Calls Tryd.prog 8 #[.string a, .slice A0 l0.length c0] w fun e w' => e = .returned (.bool true) ∧ Below w.heap.size w w' := marginalialaw01_InputBehind.walked a A0 c0 l0 w hr0 hc0 m_ hm_
end Go.Proofs.YtckajljkdlejoaaDoor.PAll
