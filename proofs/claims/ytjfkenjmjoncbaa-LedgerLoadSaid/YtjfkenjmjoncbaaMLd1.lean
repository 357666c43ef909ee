-- Laid together by a program of this session (merge.py) out of its own texts and of the print's, for one law. Lean checks it.
import Derived.Test.YtjfkenjmjoncbaaMLd0
section
namespace Go.Proofs.Ytjfkenjmjoncbaa.Srt
open Go Go.Proofs 
set_option linter.unusedVariables false
set_option linter.unusedSimpArgs false
set_option maxHeartbeats 1000000 in
theorem cmp_isNaN_int (x : Int) (w : World) : Calls Try.prog 51 #[.int .u64 x] w fun e w' => e = .returned (.bool false) ∧ w' = w := by
  go_enter Try.func51, Try.ntmps51
  go_wp2
  go_ret
  exact ⟨by simp, rfl⟩

set_option maxHeartbeats 1000000 in
theorem cmp_Less_int (x y : Int) (w : World) : Calls Try.prog 45 #[.int .u64 x, .int .u64 y] w fun e w' => e = .returned (.bool (Sort.ltInt x y)) ∧ w' = w := by
  go_enter Try.func45, Try.ntmps45
  go_wp2_with (go_at_call 51; refine (cmp_isNaN_int _ _).mono ?_; rintro e w' ⟨rfl, rfl⟩)
  go_ret
  exact ⟨rfl, rfl⟩

end Go.Proofs.Ytjfkenjmjoncbaa.Srt
namespace Go.Proofs.Ytjfkenjmjoncbaa.Srt
open Go Go.Proofs Go.RowKit Go.Sort
set_option linter.unusedVariables false
set_option linter.unusedSimpArgs false
theorem insertionSort_int (blk off cap a b : Nat) (d : Array Int) (w : World) (hH : Holds (Value.int .u64) w blk off d) (hab : a ≤ b) (hb : b ≤ d.size) (hsz : d.size < 4611686018427387904) :
    Calls Try.prog 52 #[.slice (some ⟨blk, off, none⟩) d.size cap, .int .i64 a, .int .i64 b] w fun e w' =>
      e = .returned (.tuple #[]) ∧ ∃ n, w' = putRow (Value.int .u64) (Sort.ahead w n) blk off (Sort.insertionSort ltInt d a b) := by
  go_enter Try.func52, Try.ntmps52
  go_wp2
  go_loopw [6] (fun vi wr => ∃ (i n : Nat) (dk : Array Int), vi = .int .i64 i ∧ a < i ∧ i ≤ b + 1 ∧ dk.size = d.size ∧ wr = putRow (Value.int .u64) (Sort.ahead w n) blk off dk ∧
      insOuter ltInt a b i dk = insOuter ltInt a b (a + 1) d) (fun vi _ => b + 1 - (intOf vi).toNat)
  case atStart => exact ⟨a + 1, 0, d, by go_num, by omega, by omega, rfl, (putRow_self _ _ _ _ _ hH).symm, rfl⟩
  case round =>
    obtain ⟨i, n, dk, rfl, hai, hib, hsk, hwr, hO⟩ := hrel
    have HO : Hid (insOuter ltInt a b i dk = insOuter ltInt a b (a + 1) d) := hO
    clear hO
    go_wp2
    · -- i < b: the inner loop
      go_loopw [7] (fun vj wr2 => ∃ (j m : Nat) (dj : Array Int), vj = .int .i64 j ∧ a ≤ j ∧ j ≤ i ∧ dj.size = d.size ∧ wr2 = putRow (Value.int .u64) (Sort.ahead w m) blk off dj ∧
          insInner ltInt a j dj = insInner ltInt a i dk) (fun vj _ => (intOf vj).toNat)
      case atStart => exact ⟨i, n, dk, rfl, by omega, Nat.le_refl _, hsk, rfl, rfl⟩
      case round =>
        obtain ⟨j, m, dj, rfl, haj, hji, hsj, hw2, hI⟩ := hrel
        have hlt : i < b := by assumption
        -- the row's contents under a name of their own (the authors' find: with 'j < d.size' at hand the walk's simp turns 'dj[j]!' into 'dj[j]'); its two families: Derived/CellFam.lean serves every load and store from them
        obtain ⟨G, hG⟩ : ∃ G : Nat → Int, ∀ t, G t = dj[t]! := ⟨fun t => dj[t]!, fun _ => rfl⟩
        have hcw : ∀ t, t < d.size → wr.cell? ⟨blk, off + t, none⟩ = some (.int .u64 (G t)) := fun t ht => by
          rw [hw2, hG]; exact cell?_putRow _ _ _ _ d dj (holds_ahead _ _ _ _ _ _ hH) hsj t (by omega)
        have hfw : ∀ t, t < d.size → wr.frozen? ⟨blk, off + t, none⟩ = false := fun t ht => by
          rw [hw2, frozen?_putRow]; exact ((holds_ahead _ _ m _ _ _ hH) t ht).2
        have HW : Hid (wr = putRow (Value.int .u64) (Sort.ahead w m) blk off dj) := hw2
        have HG : Hid (∀ t, G t = dj[t]!) := hG
        have HI : Hid (insInner ltInt a j dj = insInner ltInt a i dk) := hI
        clear hw2 hG hI hH
        -- out of the inner loop: dj is what the inner loop makes of dk: the outer round's end
        have out : (j ≤ a ∨ ltInt dj[j]! dj[j - 1]! = false) → ∀ q, ∃ i' n' dk', Value.int .i64 ((i : Int) + 1) = .int .i64 (i' : Nat) ∧ a < i' ∧ i' ≤ b + 1 ∧ dk'.size = d.size ∧
            wr.drewN q = putRow (Value.int .u64) (Sort.ahead w n') blk off dk' ∧ insOuter ltInt a b i' dk' = insOuter ltInt a b (a + 1) d := fun hs q =>
          ⟨i + 1, m + q, dj, by go_num, by omega, by omega, hsj, by rw [HW.out]; exact putRow_drewN _ _ _ _ _ _ _,
            by rw [← HO.out, insOuter_go _ _ _ _ _ hlt, ← HI.out, insInner_stop _ _ _ _ hs]⟩
        have OUT : Hid _ := out
        clear out
        go_wp2
        by_cases hja : a < j
        · go_quiet (first | (go_at_call 45; refine Calls.quiet_of_same (cmp_Less_int _ _ _)))
          go_wp2
          · -- Less: the swap, j--
            have hl : ltInt (G j) (G (j - 1)) = true := by assumption
            go_region
            all_goals go_wp2
            go_roundw
            case rel =>
              refine ⟨j - 1, m + (nq + 1), swp dj j (j - 1), by congr 1; omega, by omega, by omega, by rw [size_swp]; exact hsj, ?_, ?_⟩
              · rw [HW.out, HG.out, HG.out]
                exact swap_worldA _ w m (nq + 1) blk off dj j (j - 1) (by omega) (by omega)
              · rw [← HI.out, insInner_go ltInt a j dj hja (by rw [← HG.out, ← HG.out]; exact hl)]
            case measure => simp [intOf]; omega
          · -- not Less
            have hl : ltInt (G j) (G (j - 1)) = false := by assumption
            go_roundw
            case rel => exact OUT.out (Or.inr (by rw [← HG.out, ← HG.out]; exact hl)) nq
            case measure => simp [intOf]; omega
        · go_quiet (first | (go_at_call 45; refine Calls.quiet_of_same (cmp_Less_int _ _ _)))
          go_wp2
          go_roundw
          case rel => exact OUT.out (Or.inl (by omega)) nq
          case measure => simp [intOf]; omega
    · -- the outer loop is at its end
      have hge : ¬ i < b := by assumption
      go_end0
      exact ⟨rfl, n, by unfold Sort.insertionSort; rw [← HO.out, insOuter_stop _ _ _ _ _ hge]⟩
end Go.Proofs.Ytjfkenjmjoncbaa.Srt
namespace Go.Proofs.Ytjfkenjmjoncbaa.Srt
open Go Go.Proofs Elab Go.RowKit Go.Sort Lean Meta Tactic
set_option linter.unusedVariables false
set_option linter.unusedSimpArgs false
set_option maxHeartbeats 1600000 in
set_option maxRecDepth 100000 in
theorem partialInsertionSort_int (blk off cap a b : Nat) (d : Array Int) (w : World) (hH : Holds (Value.int .u64) w blk off d) (hab : a < b) (hb : b ≤ d.size) (hsz : d.size < 4611686018427387904) :
    Calls Try.prog 57 #[.slice (some ⟨blk, off, none⟩) d.size cap, .int .i64 a, .int .i64 b] w fun e w' =>
      e = .returned (.bool (Sort.partialInsertionSort ltInt d a b).2) ∧ ∃ n, w' = putRow (Value.int .u64) (Sort.ahead w n) blk off (Sort.partialInsertionSort ltInt d a b).1 := by
  have HH : Hid (Holds (Value.int .u64) w blk off d) := hH
  have HST : Hid (w = putRow (Value.int .u64) (Sort.ahead w 0) blk off d) := (putRow_self _ _ _ _ _ hH).symm
  clear hH
  go_enter Try.func57, Try.ntmps57
  go_wp2
  go_loopw [7, 8] (fun vi vs wr => ∃ (i s n : Nat) (dk : Array Int), vi = .int .i64 i ∧ vs = .int .i64 s ∧ s ≤ 5 ∧ a < i ∧ i ≤ b ∧ dk.size = d.size ∧ wr = putRow (Value.int .u64) (Sort.ahead w n) blk off dk ∧
      partialIns ltInt a b (5 - s) i dk = partialIns ltInt a b 5 (a + 1) d) (fun _ vs _ => 5 - (intOf vs).toNat)
  case atStart => exact ⟨a + 1, 0, 0, d, by go_num, rfl, by omega, by omega, by omega, rfl, HST.out, rfl⟩
  case round =>
    obtain ⟨i, s, n, dk, rfl, rfl, hs5, hai, hib, hsk, hwr, hO⟩ := hrel
    have HO : Hid (partialIns ltInt a b (5 - s) i dk = partialIns ltInt a b 5 (a + 1) d) := hO
    clear hO
    go_wp2
    · -- s < 5: the scan
      have hs : s < 5 := by omega
      go_loopw [7] (fun vi wr2 => ∃ (k m : Nat), vi = .int .i64 k ∧ i ≤ k ∧ k ≤ b ∧ wr2 = putRow (Value.int .u64) (Sort.ahead w m) blk off dk ∧ scanSorted ltInt dk b k = scanSorted ltInt dk b i) (fun vi _ => b - (intOf vi).toNat)
      case atStart => exact ⟨i, n, rfl, Nat.le_refl _, hib, rfl, rfl⟩
      case round =>
        obtain ⟨k, m, rfl, hik, hkb, hw2, hS⟩ := hrel
        obtain ⟨G, hG⟩ : ∃ G : Nat → Int, ∀ t, G t = dk[t]! := ⟨fun t => dk[t]!, fun _ => rfl⟩
        have hcw : ∀ t, t < d.size → wr.cell? ⟨blk, off + t, none⟩ = some (.int .u64 (G t)) := fun t ht => by
          rw [hw2, hG]; exact cell?_putRow _ _ _ _ d dk (holds_ahead _ _ _ _ _ _ HH.out) hsk t (by omega)
        have hfw : ∀ t, t < d.size → wr.frozen? ⟨blk, off + t, none⟩ = false := fun t ht => by
          rw [hw2, frozen?_putRow]; exact ((holds_ahead _ _ m _ _ _ HH.out) t ht).2
        have HW : Hid (wr = putRow (Value.int .u64) (Sort.ahead w m) blk off dk) := hw2
        have HG : Hid (∀ t, G t = dk[t]!) := hG
        have HS : Hid (scanSorted ltInt dk b k = scanSorted ltInt dk b i) := hS
        clear hw2 hG hS
        go_wp2
        by_cases hkb' : k < b
        · go_quiet (first | (go_at_call 45; refine Calls.quiet_of_same (cmp_Less_int _ _ _)))
          go_wp2
          all_goals first
            | (at_end
               have hl : ltInt (G k) (G (k - 1)) = false := by
                 have h : (!ltInt (G k) (G (k - 1))) = true := by assumption
                 simpa using h
               go_roundw
               case rel => exact ⟨k + 1, m + nq, by go_num, by omega, by omega, by rw [HW.out]; exact putRow_drewN _ _ _ _ _ _ _, by rw [← HS.out, scanSorted_go ltInt dk b k hkb' (by rw [← HG.out, ← HG.out]; exact hl)]⟩
               case measure => simp [intOf]; omega)
            | (have hl : ltInt (G k) (G (k - 1)) = true := by
                 have h : (!ltInt (G k) (G (k - 1))) = false := by assumption
                 simpa using h
               have HK : Hid (scanSorted ltInt dk b i = k) := by
                 show scanSorted ltInt dk b i = k
                 rw [← HS.out, scanSorted_stop ltInt dk b k (Or.inr (by rw [← HG.out, ← HG.out]; exact hl))]
               first
                 | (at_ret
                    have hv : Sort.partialInsertionSort ltInt d a b = (dk, false) := by
                      unfold Sort.partialInsertionSort
                      rw [← HO.out, pi_short ltInt a b s i dk hs (by rw [HK.out]; omega) (by omega)]
                    rw [hv]
                    go_ret
                    exact ⟨rfl, m + nq, by rw [HW.out]; exact putRow_drewN _ _ _ _ _ _ _⟩)
                 | (at_region 11
                    have h50 : ¬ b - a < 50 := by omega
                    go_region
                    have hsw : ((wr.drewN (nq + 1)).setCell ⟨blk, off + k, none⟩ (.int .u64 (G (k - 1)))).setCell ⟨blk, off + (k - 1), none⟩ (.int .u64 (G k)) = putRow (Value.int .u64) (Sort.ahead w (m + (nq + 1))) blk off (swp dk k (k - 1)) := by
                      rw [HW.out, HG.out, HG.out]
                      exact swap_worldA _ w m (nq + 1) blk off dk k (k - 1) (by omega) (by omega)
                    have hs1 : (swp dk k (k - 1)).size = d.size := by rw [size_swp]; exact hsk
                    go_wp2
                    all_goals first
                      | (at_loop
                         -- i - a >= 2: the smaller one goes down
                         have hka : k - a ≥ 2 := by omega
                         go_loopw [9] (fun vj wr2 => ∃ (j m2 : Nat) (dj : Array Int), vj = .int .i64 j ∧ j ≤ k - 1 ∧ dj.size = d.size ∧ wr2 = putRow (Value.int .u64) (Sort.ahead w m2) blk off dj ∧
                             shiftDown ltInt j dj = shiftDown ltInt (k - 1) (swp dk k (k - 1))) (fun vj _ => (intOf vj).toNat)
                         case atStart => exact ⟨k - 1, _, (swp dk k (k - 1)), by congr 1; omega, Nat.le_refl _, hs1, rfl, rfl⟩
                         case round =>
                           obtain ⟨j, m2, dj, rfl, hjk, hsj, hw2, hDn⟩ := hrel
                           obtain ⟨G, hG⟩ : ∃ G : Nat → Int, ∀ t, G t = dj[t]! := ⟨fun t => dj[t]!, fun _ => rfl⟩
                           have hcw : ∀ t, t < d.size → wr.cell? ⟨blk, off + t, none⟩ = some (.int .u64 (G t)) := fun t ht => by
                             rw [hw2, hG]; exact cell?_putRow _ _ _ _ d dj (holds_ahead _ _ _ _ _ _ HH.out) hsj t (by omega)
                           have hfw : ∀ t, t < d.size → wr.frozen? ⟨blk, off + t, none⟩ = false := fun t ht => by
                             rw [hw2, frozen?_putRow]; exact ((holds_ahead _ _ m2 _ _ _ HH.out) t ht).2
                           have HW : Hid (wr = putRow (Value.int .u64) (Sort.ahead w m2) blk off dj) := hw2
                           have HG : Hid (∀ t, G t = dj[t]!) := hG
                           have HDn : Hid (shiftDown ltInt j dj = shiftDown ltInt (k - 1) (swp dk k (k - 1))) := hDn
                           clear hw2 hG hDn hsw
                           go_wp2
                           all_goals first
                             | (at_region 16
                                go_quiet (first | (go_at_call 45; refine Calls.quiet_of_same (cmp_Less_int _ _ _)))
                                go_wp2
                                all_goals first
                                  | (at_region 17
                                     have hl : ltInt (G j) (G (j - 1)) = true := by
                                       have h : (!ltInt (G j) (G (j - 1))) = false := by assumption
                                       simpa using h
                                     go_region
                                     all_goals go_wp2
                                     go_roundw
                                     case rel =>
                                       refine ⟨j - 1, m2 + (nq + 1), swp dj j (j - 1), by congr 1; omega, by omega, by rw [size_swp]; exact hsj, ?_, ?_⟩
                                       · rw [HW.out, HG.out, HG.out]
                                         exact swap_worldA _ w m2 (nq + 1) blk off dj j (j - 1) (by omega) (by omega)
                                       · rw [← HDn.out, shiftDown_go ltInt j dj (by omega) (by rw [← HG.out, ← HG.out]; exact hl)]
                                     case measure => simp [intOf]; omega)
                                  | (-- break
                                     have hl : ltInt (G j) (G (j - 1)) = false := by
                                       have h : (!ltInt (G j) (G (j - 1))) = true := by assumption
                                       simpa using h
                                     have HD : Hid (fixDown ltInt a k (swp dk k (k - 1)) = dj) := by
                                       show fixDown ltInt a k (swp dk k (k - 1)) = dj
                                       unfold fixDown; rw [if_pos hka, ← HDn.out, shiftDown_stop ltInt j dj (Or.inr (by rw [← HG.out, ← HG.out]; exact hl))]
                                     first
                                       | (at_end
                                          go_roundw
                                          case rel =>
                                            refine ⟨k, s + 1, _, dj, rfl, by go_num, by omega, by omega, by omega, hsj, (by first | rfl | exact HW.out | (rw [HW.out]; exact putRow_drewN _ _ _ _ _ _ _)), ?_⟩
                                            rw [← HO.out, pi_go ltInt a b s i k dk hs HK.out (by omega) (by omega), HD.out, show fixUp ltInt b k dj = dj from by unfold fixUp; rw [if_neg (by omega)]]
                                          case measure => simp [intOf]; omega)
                                       | (at_loop
                                          go_loopw [10] (fun vj wr2 => ∃ (j m3 : Nat) (du : Array Int), vj = .int .i64 j ∧ k + 1 ≤ j ∧ j ≤ b ∧ du.size = d.size ∧ wr2 = putRow (Value.int .u64) (Sort.ahead w m3) blk off du ∧
                                              shiftUp ltInt b j du = shiftUp ltInt b (k + 1) dj) (fun vj _ => b - (intOf vj).toNat)
                                          case atStart => exact ⟨k + 1, _, dj, by go_num, Nat.le_refl _, by omega, hsj, (by first | rfl | exact HW.out | (rw [HW.out]; exact putRow_drewN _ _ _ _ _ _ _)), rfl⟩
                                          case round =>
                                            obtain ⟨j, m3, du, rfl, hkj, hjb, hsu, hw3, hU⟩ := hrel
                                            obtain ⟨G, hG⟩ : ∃ G : Nat → Int, ∀ t, G t = du[t]! := ⟨fun t => du[t]!, fun _ => rfl⟩
                                            have hcw : ∀ t, t < d.size → wr.cell? ⟨blk, off + t, none⟩ = some (.int .u64 (G t)) := fun t ht => by
                                              rw [hw3, hG]; exact cell?_putRow _ _ _ _ d du (holds_ahead _ _ _ _ _ _ HH.out) hsu t (by omega)
                                            have hfw : ∀ t, t < d.size → wr.frozen? ⟨blk, off + t, none⟩ = false := fun t ht => by
                                              rw [hw3, frozen?_putRow]; exact ((holds_ahead _ _ m3 _ _ _ HH.out) t ht).2
                                            have HW : Hid (wr = putRow (Value.int .u64) (Sort.ahead w m3) blk off du) := hw3
                                            have HG : Hid (∀ t, G t = du[t]!) := hG
                                            have HU : Hid (shiftUp ltInt b j du = shiftUp ltInt b (k + 1) dj) := hU
                                            clear hw3 hG hU
                                            go_wp2
                                            all_goals first
                                              | (at_region 22
                                                 go_quiet (first | (go_at_call 45; refine Calls.quiet_of_same (cmp_Less_int _ _ _)))
                                                 go_wp2
                                                 all_goals first
                                                   | (at_region 23
                                                      have hl : ltInt (G j) (G (j - 1)) = true := by
                                                        have h : (!ltInt (G j) (G (j - 1))) = false := by assumption
                                                        simpa using h
                                                      go_region
                                                      all_goals go_wp2
                                                      go_roundw
                                                      case rel =>
                                                        refine ⟨j + 1, m3 + (nq + 1), swp du j (j - 1), by go_num, by omega, by omega, by rw [size_swp]; exact hsu, ?_, ?_⟩
                                                        · rw [HW.out, HG.out, HG.out]
                                                          exact swap_worldA _ w m3 (nq + 1) blk off du j (j - 1) (by omega) (by omega)
                                                        · rw [← HU.out, shiftUp_go ltInt b j du (by omega) (by rw [← HG.out, ← HG.out]; exact hl)]
                                                      case measure => simp [intOf]; omega)
                                                   | (at_end
                                                      have hl : ltInt (G j) (G (j - 1)) = false := by
                                                        have h : (!ltInt (G j) (G (j - 1))) = true := by assumption
                                                        simpa using h
                                                      go_roundw
                                                      case rel =>
                                                        refine ⟨k, s + 1, _, du, rfl, by go_num, by omega, by omega, by omega, hsu, (by first | rfl | exact HW.out | (rw [HW.out]; exact putRow_drewN _ _ _ _ _ _ _)), ?_⟩
                                                        rw [← HO.out, pi_go ltInt a b s i k dk hs HK.out (by omega) (by omega), HD.out, show fixUp ltInt b k dj = du from by unfold fixUp; rw [if_pos (by omega), ← HU.out, shiftUp_stop ltInt b j du (Or.inr (by rw [← HG.out, ← HG.out]; exact hl))]]
                                                      case measure => simp [intOf]; omega))
                                              | (at_end
                                                 go_roundw
                                                 case rel =>
                                                   refine ⟨k, s + 1, _, du, rfl, by go_num, by omega, by omega, by omega, hsu, (by first | rfl | exact HW.out | (rw [HW.out]; exact putRow_drewN _ _ _ _ _ _ _)), ?_⟩
                                                   rw [← HO.out, pi_go ltInt a b s i k dk hs HK.out (by omega) (by omega), HD.out, show fixUp ltInt b k dj = du from by unfold fixUp; rw [if_pos (by omega), ← HU.out, shiftUp_stop ltInt b j du (Or.inl (by omega))]]
                                                 case measure => simp [intOf]; omega))))
                             | (-- j < 1
                                have HD : Hid (fixDown ltInt a k (swp dk k (k - 1)) = dj) := by
                                  show fixDown ltInt a k (swp dk k (k - 1)) = dj
                                  unfold fixDown; rw [if_pos hka, ← HDn.out, shiftDown_stop ltInt j dj (Or.inl (by omega))]
                                first
                                  | (at_end
                                     go_roundw
                                     case rel =>
                                       refine ⟨k, s + 1, _, dj, rfl, by go_num, by omega, by omega, by omega, hsj, (by first | rfl | exact HW.out | (rw [HW.out]; exact putRow_drewN _ _ _ _ _ _ _)), ?_⟩
                                       rw [← HO.out, pi_go ltInt a b s i k dk hs HK.out (by omega) (by omega), HD.out, show fixUp ltInt b k dj = dj from by unfold fixUp; rw [if_neg (by omega)]]
                                     case measure => simp [intOf]; omega)
                                  | (at_loop
                                     go_loopw [10] (fun vj wr2 => ∃ (j m3 : Nat) (du : Array Int), vj = .int .i64 j ∧ k + 1 ≤ j ∧ j ≤ b ∧ du.size = d.size ∧ wr2 = putRow (Value.int .u64) (Sort.ahead w m3) blk off du ∧
                                         shiftUp ltInt b j du = shiftUp ltInt b (k + 1) dj) (fun vj _ => b - (intOf vj).toNat)
                                     case atStart => exact ⟨k + 1, _, dj, by go_num, Nat.le_refl _, by omega, hsj, (by first | rfl | exact HW.out | (rw [HW.out]; exact putRow_drewN _ _ _ _ _ _ _)), rfl⟩
                                     case round =>
                                       obtain ⟨j, m3, du, rfl, hkj, hjb, hsu, hw3, hU⟩ := hrel
                                       obtain ⟨G, hG⟩ : ∃ G : Nat → Int, ∀ t, G t = du[t]! := ⟨fun t => du[t]!, fun _ => rfl⟩
                                       have hcw : ∀ t, t < d.size → wr.cell? ⟨blk, off + t, none⟩ = some (.int .u64 (G t)) := fun t ht => by
                                         rw [hw3, hG]; exact cell?_putRow _ _ _ _ d du (holds_ahead _ _ _ _ _ _ HH.out) hsu t (by omega)
                                       have hfw : ∀ t, t < d.size → wr.frozen? ⟨blk, off + t, none⟩ = false := fun t ht => by
                                         rw [hw3, frozen?_putRow]; exact ((holds_ahead _ _ m3 _ _ _ HH.out) t ht).2
                                       have HW : Hid (wr = putRow (Value.int .u64) (Sort.ahead w m3) blk off du) := hw3
                                       have HG : Hid (∀ t, G t = du[t]!) := hG
                                       have HU : Hid (shiftUp ltInt b j du = shiftUp ltInt b (k + 1) dj) := hU
                                       clear hw3 hG hU
                                       go_wp2
                                       all_goals first
                                         | (at_region 22
                                            go_quiet (first | (go_at_call 45; refine Calls.quiet_of_same (cmp_Less_int _ _ _)))
                                            go_wp2
                                            all_goals first
                                              | (at_region 23
                                                 have hl : ltInt (G j) (G (j - 1)) = true := by
                                                   have h : (!ltInt (G j) (G (j - 1))) = false := by assumption
                                                   simpa using h
                                                 go_region
                                                 all_goals go_wp2
                                                 go_roundw
                                                 case rel =>
                                                   refine ⟨j + 1, m3 + (nq + 1), swp du j (j - 1), by go_num, by omega, by omega, by rw [size_swp]; exact hsu, ?_, ?_⟩
                                                   · rw [HW.out, HG.out, HG.out]
                                                     exact swap_worldA _ w m3 (nq + 1) blk off du j (j - 1) (by omega) (by omega)
                                                   · rw [← HU.out, shiftUp_go ltInt b j du (by omega) (by rw [← HG.out, ← HG.out]; exact hl)]
                                                 case measure => simp [intOf]; omega)
                                              | (at_end
                                                 have hl : ltInt (G j) (G (j - 1)) = false := by
                                                   have h : (!ltInt (G j) (G (j - 1))) = true := by assumption
                                                   simpa using h
                                                 go_roundw
                                                 case rel =>
                                                   refine ⟨k, s + 1, _, du, rfl, by go_num, by omega, by omega, by omega, hsu, (by first | rfl | exact HW.out | (rw [HW.out]; exact putRow_drewN _ _ _ _ _ _ _)), ?_⟩
                                                   rw [← HO.out, pi_go ltInt a b s i k dk hs HK.out (by omega) (by omega), HD.out, show fixUp ltInt b k dj = du from by unfold fixUp; rw [if_pos (by omega), ← HU.out, shiftUp_stop ltInt b j du (Or.inr (by rw [← HG.out, ← HG.out]; exact hl))]]
                                                 case measure => simp [intOf]; omega))
                                         | (at_end
                                            go_roundw
                                            case rel =>
                                              refine ⟨k, s + 1, _, du, rfl, by go_num, by omega, by omega, by omega, hsu, (by first | rfl | exact HW.out | (rw [HW.out]; exact putRow_drewN _ _ _ _ _ _ _)), ?_⟩
                                              rw [← HO.out, pi_go ltInt a b s i k dk hs HK.out (by omega) (by omega), HD.out, show fixUp ltInt b k dj = du from by unfold fixUp; rw [if_pos (by omega), ← HU.out, shiftUp_stop ltInt b j du (Or.inl (by omega))]]
                                            case measure => simp [intOf]; omega))))
                      | (-- i - a < 2
                         have HD : Hid (fixDown ltInt a k (swp dk k (k - 1)) = (swp dk k (k - 1))) := by
                           show fixDown ltInt a k (swp dk k (k - 1)) = (swp dk k (k - 1))
                           unfold fixDown; rw [if_neg (by omega)]
                         first
                           | (at_end
                              go_roundw
                              case rel =>
                                refine ⟨k, s + 1, _, (swp dk k (k - 1)), rfl, by go_num, by omega, by omega, by omega, hs1, (by first | rfl | exact HW.out | (rw [HW.out]; exact putRow_drewN _ _ _ _ _ _ _)), ?_⟩
                                rw [← HO.out, pi_go ltInt a b s i k dk hs HK.out (by omega) (by omega), HD.out, show fixUp ltInt b k (swp dk k (k - 1)) = (swp dk k (k - 1)) from by unfold fixUp; rw [if_neg (by omega)]]
                              case measure => simp [intOf]; omega)
                           | (at_loop
                              go_loopw [10] (fun vj wr2 => ∃ (j m3 : Nat) (du : Array Int), vj = .int .i64 j ∧ k + 1 ≤ j ∧ j ≤ b ∧ du.size = d.size ∧ wr2 = putRow (Value.int .u64) (Sort.ahead w m3) blk off du ∧
                                  shiftUp ltInt b j du = shiftUp ltInt b (k + 1) (swp dk k (k - 1))) (fun vj _ => b - (intOf vj).toNat)
                              case atStart => exact ⟨k + 1, _, (swp dk k (k - 1)), by go_num, Nat.le_refl _, by omega, hs1, (by first | rfl | exact HW.out | (rw [HW.out]; exact putRow_drewN _ _ _ _ _ _ _)), rfl⟩
                              case round =>
                                obtain ⟨j, m3, du, rfl, hkj, hjb, hsu, hw3, hU⟩ := hrel
                                obtain ⟨G, hG⟩ : ∃ G : Nat → Int, ∀ t, G t = du[t]! := ⟨fun t => du[t]!, fun _ => rfl⟩
                                have hcw : ∀ t, t < d.size → wr.cell? ⟨blk, off + t, none⟩ = some (.int .u64 (G t)) := fun t ht => by
                                  rw [hw3, hG]; exact cell?_putRow _ _ _ _ d du (holds_ahead _ _ _ _ _ _ HH.out) hsu t (by omega)
                                have hfw : ∀ t, t < d.size → wr.frozen? ⟨blk, off + t, none⟩ = false := fun t ht => by
                                  rw [hw3, frozen?_putRow]; exact ((holds_ahead _ _ m3 _ _ _ HH.out) t ht).2
                                have HW : Hid (wr = putRow (Value.int .u64) (Sort.ahead w m3) blk off du) := hw3
                                have HG : Hid (∀ t, G t = du[t]!) := hG
                                have HU : Hid (shiftUp ltInt b j du = shiftUp ltInt b (k + 1) (swp dk k (k - 1))) := hU
                                clear hw3 hG hU
                                go_wp2
                                all_goals first
                                  | (at_region 22
                                     go_quiet (first | (go_at_call 45; refine Calls.quiet_of_same (cmp_Less_int _ _ _)))
                                     go_wp2
                                     all_goals first
                                       | (at_region 23
                                          have hl : ltInt (G j) (G (j - 1)) = true := by
                                            have h : (!ltInt (G j) (G (j - 1))) = false := by assumption
                                            simpa using h
                                          go_region
                                          all_goals go_wp2
                                          go_roundw
                                          case rel =>
                                            refine ⟨j + 1, m3 + (nq + 1), swp du j (j - 1), by go_num, by omega, by omega, by rw [size_swp]; exact hsu, ?_, ?_⟩
                                            · rw [HW.out, HG.out, HG.out]
                                              exact swap_worldA _ w m3 (nq + 1) blk off du j (j - 1) (by omega) (by omega)
                                            · rw [← HU.out, shiftUp_go ltInt b j du (by omega) (by rw [← HG.out, ← HG.out]; exact hl)]
                                          case measure => simp [intOf]; omega)
                                       | (at_end
                                          have hl : ltInt (G j) (G (j - 1)) = false := by
                                            have h : (!ltInt (G j) (G (j - 1))) = true := by assumption
                                            simpa using h
                                          go_roundw
                                          case rel =>
                                            refine ⟨k, s + 1, _, du, rfl, by go_num, by omega, by omega, by omega, hsu, (by first | rfl | exact HW.out | (rw [HW.out]; exact putRow_drewN _ _ _ _ _ _ _)), ?_⟩
                                            rw [← HO.out, pi_go ltInt a b s i k dk hs HK.out (by omega) (by omega), HD.out, show fixUp ltInt b k (swp dk k (k - 1)) = du from by unfold fixUp; rw [if_pos (by omega), ← HU.out, shiftUp_stop ltInt b j du (Or.inr (by rw [← HG.out, ← HG.out]; exact hl))]]
                                          case measure => simp [intOf]; omega))
                                  | (at_end
                                     go_roundw
                                     case rel =>
                                       refine ⟨k, s + 1, _, du, rfl, by go_num, by omega, by omega, by omega, hsu, (by first | rfl | exact HW.out | (rw [HW.out]; exact putRow_drewN _ _ _ _ _ _ _)), ?_⟩
                                       rw [← HO.out, pi_go ltInt a b s i k dk hs HK.out (by omega) (by omega), HD.out, show fixUp ltInt b k (swp dk k (k - 1)) = du from by unfold fixUp; rw [if_pos (by omega), ← HU.out, shiftUp_stop ltInt b j du (Or.inl (by omega))]]
                                     case measure => simp [intOf]; omega)))))
        · -- the scan has come to b: true
          go_quiet (first | (go_at_call 45; refine Calls.quiet_of_same (cmp_Less_int _ _ _)))
          go_wp2
          obtain rfl : k = b := by omega
          have hv : Sort.partialInsertionSort ltInt d a k = (dk, true) := by
            unfold Sort.partialInsertionSort
            rw [← HO.out, pi_true ltInt a k s i dk hs (by rw [← HS.out, scanSorted_stop ltInt dk k k (Or.inl (by omega))])]
          rw [hv]
          go_ret
          exact ⟨rfl, m + nq, by rw [HW.out]; exact putRow_drewN _ _ _ _ _ _ _⟩
    · -- five steps are done: false
      obtain rfl : s = 5 := by omega
      have hv : Sort.partialInsertionSort ltInt d a b = (dk, false) := by
        unfold Sort.partialInsertionSort
        rw [← HO.out, pi_end]
      rw [hv]
      go_ret
      exact ⟨rfl, n, rfl⟩
end Go.Proofs.Ytjfkenjmjoncbaa.Srt
namespace Go.Proofs.Ytjfkenjmjoncbaa.Srt
open Go Go.Proofs Go.RowKit Go.Sort
set_option linter.unusedVariables false
set_option linter.unusedSimpArgs false
def lays125_ren : Go.Shelf.Ren := ⟨fun | 125 => 50 | 128 => 60 | 129 => 61 | n => n, fun | 46 => 90 | 3 => 3 | 51 => 105 | 53 => 24 | 4 => 4 | 5 => 5 | 9 => 9 | n => n, fun | n => n⟩
theorem lays125 : Go.Proofs.Lays.n125 Try.prog lays125_ren := {
  mixed := by kernel_rfl
  f125 := Try.func50.trans (congrArg some (by kernel_rfl))
  f128 := Try.func60.trans (congrArg some (by kernel_rfl))
  f129 := Try.func61.trans (congrArg some (by kernel_rfl))
  t3 := Try.underlying3
  a3 := Try.isAgg3
  z3 := Try.sizeOf3
  v3 := Try.zeroValue3
  t4 := Try.underlying4
  a4 := Try.isAgg4
  z4 := Try.sizeOf4
  v4 := Try.zeroValue4
  t5 := Try.underlying5
  a5 := Try.isAgg5
  z5 := Try.sizeOf5
  v5 := Try.zeroValue5
  t9 := Try.underlying9
  a9 := Try.isAgg9
  z9 := Try.sizeOf9
  v9 := Try.zeroValue9
  t46 := Try.underlying90
  a46 := Try.isAgg90
  z46 := Try.sizeOf90
  v46 := Try.zeroValue90
  t51 := Try.underlying105
  a51 := Try.isAgg105
  z51 := Try.sizeOf105
  v51 := Try.zeroValue105
  t53 := Try.underlying24
  a53 := Try.isAgg24
  z53 := Try.sizeOf24
  v53 := Try.zeroValue24 }
theorem bits_Len (x : Int) (w : World) (h0 : 0 ≤ x) (h1 : x ≤ 18446744073709551615) :
    Calls Try.prog 50 #[.int .u64 x] w fun e w' => e = .returned (.int .i64 (Lib.bitLen x.toNat)) ∧ w' = w := Any.bits_Len lays125 x w h0 h1

def pdqWalk_int : Prop := ∀ (blk off cap a b limit : Nat) (d : Array Int) (w : World), Holds (Value.int .u64) w blk off d → blk < w.heap.size → a ≤ b → b ≤ d.size → d.size < 4611686018427387904 → limit < 4611686018427387904 → Below ltInt a b d →
  Calls Try.prog 49 #[.slice (some ⟨blk, off, none⟩) d.size cap, .int .i64 a, .int .i64 b, .int .i64 limit] w fun e w' =>
    e = .returned (.tuple #[]) ∧ ∃ n os, w' = grow (putRow (Value.int .u64) (Sort.ahead w n) blk off (Sort.pdq ltInt d a b limit true true)) os
set_option maxRecDepth 100000 in
theorem Sort_int (hpdq : pdqWalk_int) (blk off cap : Nat) (d : Array Int) (w : World) (hH : Holds (Value.int .u64) w blk off d) (hblk : blk < w.heap.size) (hsz : d.size < 4611686018427387904) :
    Calls Try.prog 43 #[.slice (some ⟨blk, off, none⟩) d.size cap] w fun e w' => e = .returned (.tuple #[]) ∧ ∃ n os, w' = grow (putRow (Value.int .u64) (Sort.ahead w n) blk off (Sort.sort ltInt d)) os := by
  have HH : Hid (Holds (Value.int .u64) w blk off d) := hH
  clear hH
  have hLen : ∀ w, Calls Try.prog 50 #[.int .u64 (d.size : Int)] w fun e w' => e = .returned (.int .i64 (bitsLen d.size : Nat)) ∧ w' = w := fun w => by
    have h := bits_Len (d.size : Int) w (by omega) (by omega)
    rwa [Int.toNat_natCast, bitLen_eq _ (by omega)] at h
  have hk : bitsLen d.size ≤ 62 := (bitsLen_le_iff d.size 62).2 (by omega)
  go_enter Try.func43, Try.ntmps43
  go_wp2_with (first
    | (go_at_call 50; refine (hLen _).mono ?_; rintro e w' ⟨rfl, rfl⟩)
    | (go_at_call 49; refine (hpdq blk off cap 0 d.size (bitsLen d.size) d _ (by exact HH.out) (by exact hblk) (Nat.zero_le _) (Nat.le_refl _) hsz (by omega) (Or.inl rfl)).mono ?_; rintro e w' ⟨rfl, n, os, rfl⟩))
  go_end0
  exact ⟨rfl, n, os, rfl⟩

end Go.Proofs.Ytjfkenjmjoncbaa.Srt
namespace Go.Proofs.Ytjfkenjmjoncbaa.Srt
open Go Go.Proofs Go.RowKit Go.Sort
set_option linter.unusedVariables false
set_option linter.unusedSimpArgs false
theorem xorshift_Next (rb ro X : Nat) (hX : X < 18446744073709551616) (w : World) (hc : w.cell? ⟨rb, ro, none⟩ = some (.int .u64 X)) (hf : w.frozen? ⟨rb, ro, none⟩ = false) :
    Calls Try.prog 64 #[.pointer (some ⟨rb, ro, none⟩)] w fun e w' => e = .returned (.int .u64 (xorNextN X : Nat)) ∧ w' = (w.setCell ⟨rb, ro, none⟩ (.int .u64 (xorNextN X : Nat))).drewN 3 := by
  -- the three numbers under names of their own; an equation a step, in the walk's own spelling
  obtain ⟨A, hA⟩ : ∃ A : Nat, A = X ^^^ (X * 8192 % 18446744073709551616) := ⟨_, rfl⟩
  obtain ⟨B, hB⟩ : ∃ B : Nat, B = A ^^^ (A / 128) := ⟨_, rfl⟩
  obtain ⟨C, hC⟩ : ∃ C : Nat, C = B ^^^ (B * 131072 % 18446744073709551616) := ⟨_, rfl⟩
  have lA : A < 18446744073709551616 := by rw [hA]; exact Nat.xor_lt_two_pow (n := 64) (by omega) (by omega)
  have lB : B < 18446744073709551616 := by rw [hB]; exact Nat.xor_lt_two_pow (n := 64) (by omega) (by omega)
  have e1 : bits .xor .u64 (X : Int) (IntKind.u64.wrap ((X : Int) * 8192)) = (A : Int) := by
    rw [IntKind.wrap_u64, show ((X : Int) * 8192 % 18446744073709551616) = ((X * 8192 % 18446744073709551616 : Nat) : Int) by omega, bits_xor_u64_nat _ _ hX (by omega), hA]
  have e2 : bits .xor .u64 (A : Int) ((A : Int) / 128) = (B : Int) := by
    rw [show ((A : Int) / 128) = ((A / 128 : Nat) : Int) by omega, bits_xor_u64_nat _ _ lA (by omega), hB]
  have e3 : bits .xor .u64 (B : Int) (IntKind.u64.wrap ((B : Int) * 131072)) = (C : Int) := by
    rw [IntKind.wrap_u64, show ((B : Int) * 131072 % 18446744073709551616) = ((B * 131072 % 18446744073709551616 : Nat) : Int) by omega, bits_xor_u64_nat _ _ lB (by omega), hC]
  have hv : xorNextN X = C := by unfold xorNextN; simp only []; rw [← hA, ← hB, ← hC]
  rw [hv]
  clear hA hB hC hv
  -- the stores are not let pile up: behind three of them the last load stood still
  have hss : ∀ v v', (w.setCell ⟨rb, ro, none⟩ v).setCell ⟨rb, ro, none⟩ v' = w.setCell ⟨rb, ro, none⟩ v' := setCell_setCell w rb ro
  go_enter Try.func64, Try.ntmps64
  go_wp2
  go_region
  all_goals go_wp2
  all_goals go_region
  all_goals go_wp2
  all_goals go_region
  all_goals go_wp2
  go_ret
  exact ⟨rfl, rfl⟩

theorem nextPowerOfTwo (n : Nat) (hn : n < 4611686018427387904) (w : World) :
    Calls Try.prog 63 #[.int .i64 n] w fun e w' => e = .returned (.int .u64 ((1 <<< bitsLen n : Nat) : Int)) ∧ w' = w := by
  have hLen : ∀ w, Calls Try.prog 50 #[.int .u64 (n : Int)] w fun e w' => e = .returned (.int .i64 (bitsLen n : Nat)) ∧ w' = w := fun w => by
    have h := bits_Len (n : Int) w (by omega) (by omega)
    rwa [Int.toNat_natCast, bitLen_eq _ (by omega)] at h
  have hk : bitsLen n ≤ 62 := (bitsLen_le_iff n 62).2 (by omega)
  have hp := wrap_two_pow (bitsLen n) hk
  go_enter Try.func63, Try.ntmps63
  go_wp2_with (first | (go_at_call 50; refine (hLen _).mono ?_; rintro e w' ⟨rfl, rfl⟩))
  go_ret
  exact ⟨rfl, rfl⟩

end Go.Proofs.Ytjfkenjmjoncbaa.Srt
namespace Go.Proofs.Ytjfkenjmjoncbaa.Srt
open Go Go.Proofs Go.RowKit Go.Sort
set_option linter.unusedVariables false
set_option linter.unusedSimpArgs false
set_option maxHeartbeats 1000000 in
set_option maxRecDepth 100000 in
theorem breakPatterns_int_go (blk off cap a L : Nat) (d : Array Int) (w : World) (hH : Holds (Value.int .u64) w blk off d) (hblk : blk < w.heap.size) (hb : a + L ≤ d.size) (hsz : d.size < 4611686018427387904) (h8 : 8 ≤ L) :
    Calls Try.prog 54 #[.slice (some ⟨blk, off, none⟩) d.size cap, .int .i64 a, .int .i64 ((a + L : Nat) : Int)] w fun e w' =>
      e = .returned (.tuple #[]) ∧ ∃ n os, w' = grow (putRow (Value.int .u64) (Sort.ahead w n) blk off (breakPatterns d a (a + L))) os := by
  rw [breakPatterns_eq d a L h8]
  -- the modulus under a name of its own (written out, simp pushes the cast into the shift)
  obtain ⟨M, hM⟩ : ∃ M : Nat, M = 1 <<< bitsLen L := ⟨_, rfl⟩
  have hM1 : 1 ≤ M := by rw [hM, Nat.one_shiftLeft]; exact Nat.two_pow_pos _
  have hM2 : M ≤ 2 * L := by rw [hM, Nat.one_shiftLeft]; exact two_pow_bitsLen_le (by omega)
  have hNP : ∀ w, Calls Try.prog 63 #[.int .i64 (L : Int)] w fun e w' => e = .returned (.int .u64 (M : Int)) ∧ w' = w := by rw [hM]; exact fun w => nextPowerOfTwo L (by omega) w
  rw [← hM]
  clear hM
  have HH : Hid (Holds (Value.int .u64) w blk off d) := hH
  have HST : Hid (w.alloc (Obj.cells #[.int .u64 (L : Int)] 107) = grow (putRow (Value.int .u64) (Sort.ahead w 0) blk off d) #[Obj.cells #[.int .u64 ((UInt64.ofNat L).toNat : Int)] 107]) := by
    show _ = _
    rw [show Sort.ahead w 0 = w from rfl, putRow_self _ _ _ _ _ hH, alloc_eq_grow, show (UInt64.ofNat L).toNat = L from by simp; omega]
  clear hH
  go_enter Try.func54, Try.ntmps54
  go_wp2_with (first | (go_at_call 63; rw [show ((a : Int) + (L : Int) - (a : Int)) = (L : Int) by omega]; refine (hNP _).mono ?_; rintro e w' ⟨rfl, rfl⟩))
  go_loopw [9] (fun vi wr => ∃ (t n : Nat) (r : UInt64) (dk : Array Int), vi = .int .i64 ((a + L / 4 * 2 - 1 + t : Nat) : Int) ∧ t ≤ 3 ∧ dk.size = d.size ∧
      wr = grow (putRow (Value.int .u64) (Sort.ahead w n) blk off dk) #[Obj.cells #[.int .u64 (r.toNat : Int)] 107] ∧
      bpRest a L M (a + L / 4 * 2 - 1) (3 - t) t (r, dk) = bpRest a L M (a + L / 4 * 2 - 1) 3 0 (UInt64.ofNat L, d)) (fun vi _ => a + L / 4 * 2 + 3 - (intOf vi).toNat)
  case atStart => exact ⟨0, 0, UInt64.ofNat L, d, by congr 1; omega, by omega, rfl, HST.out, rfl⟩
  case round =>
    obtain ⟨t, n, r, dk, rfl, ht, hsk, hw, hR⟩ := hrel
    -- this round's numbers under names of their own
    obtain ⟨R, hRr⟩ : ∃ R : Nat, R = r.toNat := ⟨_, rfl⟩
    have lR : R < 18446744073709551616 := by rw [hRr]; exact r.toNat_lt
    obtain ⟨R', hR'⟩ : ∃ R' : Nat, R' = xorNextN R := ⟨_, rfl⟩
    have lR' : R' < 18446744073709551616 := by rw [hR']; exact xorNextN_lt R lR
    obtain ⟨O, hO⟩ : ∃ O : Nat, O = R' &&& (M - 1) := ⟨_, rfl⟩
    have lO : O ≤ M - 1 := by rw [hO]; exact Nat.and_le_right
    have eAnd : bits .and .u64 (R' : Int) ((M : Int) - 1) = (O : Int) := by
      rw [show ((M : Int) - 1) = ((M - 1 : Nat) : Int) by omega, bits_and_u64_nat _ _ lR' (by omega), hO]
    obtain ⟨G, hG⟩ : ∃ G : Nat → Int, ∀ x, G x = dk[x]! := ⟨fun x => dk[x]!, fun _ => rfl⟩
    have hz : (putRow (Value.int .u64) (Sort.ahead w n) blk off dk).heap.size = w.heap.size := by simp
    have hcw : ∀ x, x < d.size → wr.cell? ⟨blk, off + x, none⟩ = some (.int .u64 (G x)) := fun x hx => by
      rw [hw, cell?_grow _ _ _ (by rw [hz]; exact hblk), hG]; exact cell?_putRow _ _ _ _ d dk (holds_ahead _ _ _ _ _ _ HH.out) hsk x (by omega)
    have hfw : ∀ x, x < d.size → wr.frozen? ⟨blk, off + x, none⟩ = false := fun x hx => by
      rw [hw, frozen?_grow _ _ _ (by rw [hz]; exact hblk), frozen?_putRow]; exact ((holds_ahead _ _ n _ _ _ HH.out) x hx).2
    have hcB : wr.cell? ⟨w.heap.size, 0, none⟩ = some (.int .u64 (R : Int)) := by rw [hw, hRr, ← hz]; exact grow_one_cell _ _ _
    have hfB : wr.frozen? ⟨w.heap.size, 0, none⟩ = false := by rw [hw, ← hz]; exact grow_one_frozen _ _ _
    have hNext : Calls Try.prog 64 #[.pointer (some ⟨w.heap.size, 0, none⟩)] wr fun e w' => e = .returned (.int .u64 (R' : Int)) ∧ w' = (wr.setCell ⟨w.heap.size, 0, none⟩ (.int .u64 (R' : Int))).drewN 3 := by
      rw [hR']; exact xorshift_Next _ _ R lR wr hcB hfB
    have HW : Hid (wr = grow (putRow (Value.int .u64) (Sort.ahead w n) blk off dk) #[Obj.cells #[.int .u64 (r.toNat : Int)] 107]) := hw
    have HG : Hid (∀ x, G x = dk[x]!) := hG
    have HR : Hid (bpRest a L M (a + L / 4 * 2 - 1) (3 - t) t (r, dk) = bpRest a L M (a + L / 4 * 2 - 1) 3 0 (UInt64.ofNat L, d)) := hR
    have HN : Hid (R' = (xorNext r).toNat ∧ O = (xorNext r).toNat &&& (M - 1)) := by
      have e : R' = (xorNext r).toNat := by rw [hR', hRr, xorNext_toNat]
      exact ⟨e, by rw [hO, e]⟩
    clear hw hG hR hRr hR' hO
    go_wp2_with (first | (go_at_call 64; refine hNext.mono ?_; rintro e w' ⟨rfl, rfl⟩))
    -- ✋ THE RANDOM PLACE MAY BE idx ITSELF (Go then swaps an element with itself): whether the two stores hit one cell is not for arithmetic to say: PART ON IT AHEAD OF THE REGION
    · -- other >= length: other -= length
      have hLO : L ≤ O := by omega
      by_cases hEq : a + L / 4 * 2 - 1 + t = a + (O - L)
      all_goals
        go_region
        all_goals go_wp2
        go_roundw
        case rel =>
          refine ⟨t + 1, n + 4, xorNext r, swp dk (a + L / 4 * 2 - 1 + t) (a + (O - L)), by first | rfl | (congr 1 <;> omega), by omega, by rw [size_swp]; exact hsk, ?_, ?_⟩
          · (try rw [hEq])      -- (where the two places are one, the walk has written the one for the other)
            rw [HW.out, HN.out.1]
            simp only [HG.out]
            exact step_world (Value.int .u64) w n 4 blk off dk _ _ hblk (by omega) (by omega) _ _ _
          · rw [← HR.out, bp_step a L M _ t r dk (O - L) (by omega) (by rw [← HN.out.2, if_pos (by omega)])]
        case measure => simp [intOf]; omega
    · have hLO : ¬ L ≤ O := by omega
      by_cases hEq : a + L / 4 * 2 - 1 + t = a + O
      all_goals
        go_region
        all_goals go_wp2
        go_roundw
        case rel =>
          refine ⟨t + 1, n + 4, xorNext r, swp dk (a + L / 4 * 2 - 1 + t) (a + O), by first | rfl | (congr 1 <;> omega), by omega, by rw [size_swp]; exact hsk, ?_, ?_⟩
          · (try rw [hEq])      -- (where the two places are one, the walk has written the one for the other)
            rw [HW.out, HN.out.1]
            simp only [HG.out]
            exact step_world (Value.int .u64) w n 4 blk off dk _ _ hblk (by omega) (by omega) _ _ _
          · rw [← HR.out, bp_step a L M _ t r dk O (by omega) (by rw [← HN.out.2, if_neg (by omega)])]
        case measure => simp [intOf]; omega
    · -- three rounds are done
      obtain rfl : t = 3 := by omega
      go_end0
      exact ⟨rfl, n, _, by rw [← HR.out, HW.out]; rfl⟩

theorem breakPatterns_int (blk off cap a b : Nat) (d : Array Int) (w : World) (hH : Holds (Value.int .u64) w blk off d) (hblk : blk < w.heap.size) (hab : a ≤ b) (hb : b ≤ d.size) (hsz : d.size < 4611686018427387904) :
    Calls Try.prog 54 #[.slice (some ⟨blk, off, none⟩) d.size cap, .int .i64 a, .int .i64 b] w fun e w' =>
      e = .returned (.tuple #[]) ∧ ∃ n os, w' = grow (putRow (Value.int .u64) (Sort.ahead w n) blk off (breakPatterns d a b)) os := by
  obtain ⟨L, rfl⟩ : ∃ L, b = a + L := ⟨b - a, by omega⟩
  by_cases h8 : 8 ≤ L
  · exact breakPatterns_int_go blk off cap a L d w hH hblk hb hsz h8
  · have hv : breakPatterns d a (a + L) = d := by unfold breakPatterns; simp only [Nat.add_sub_cancel_left]; rw [if_neg h8]
    rw [hv]
    have HST : Hid (w = grow (putRow (Value.int .u64) (Sort.ahead w 0) blk off d) #[]) := by
      show _ = _
      rw [grow_empty, show Sort.ahead w 0 = w from rfl, putRow_self _ _ _ _ _ hH]
    clear hH
    go_enter Try.func54, Try.ntmps54
    go_wp2
    go_end0
    exact ⟨rfl, 0, #[], HST.out⟩

end Go.Proofs.Ytjfkenjmjoncbaa.Srt
namespace Go.Proofs.Ytjfkenjmjoncbaa.Srt
open Go Go.Proofs Go.RowKit Go.Sort
set_option linter.unusedVariables false
set_option linter.unusedSimpArgs false
abbrev encU : Int → Value := fun x => Value.int .u64 x

set_option maxHeartbeats 1600000 in
set_option maxRecDepth 1000000 in
theorem reverseRange_int (blk off cap : Nat) (d : Array Int) (a b : Nat) (w : World) (hH : Holds encU w blk off d) (hab : a ≤ b) (hb : b ≤ d.size) (hsz : d.size < 4611686018427387904) :
    Calls Try.prog 56 #[.slice (some ⟨blk, off, none⟩) d.size cap, .int .i64 a, .int .i64 b] w fun e w' => e = .returned (.tuple #[]) ∧ ∃ n, w' = putRow encU (Sort.ahead w n) blk off (reverseRange d a b) := by
  go_enter Try.func56, Try.ntmps56
  go_wp2
  go_loopg [6, 7] (b - a) (fun k s6 s7 wr => ∃ (i jn : Nat) (jz : Int) (dk : Array Int) (n : Nat), s6 = .int .i64 i ∧ s7 = .int .i64 jz ∧ ((i : Int) < jz → jz = jn ∧ jn < d.size) ∧ (¬ (i : Int) < jz → ¬ i < jn) ∧ jn - i ≤ k ∧
    dk.size = d.size ∧ wr = putRow encU (Sort.ahead w n) blk off dk ∧ reverseLoop i jn dk = reverseLoop a (b - 1) d)
  case atStart => exact ⟨a, b - 1, (b : Int) - 1, d, 0, rfl, rfl, fun h => ⟨by omega, by omega⟩, fun h => by omega, by omega, rfl, (putRow_self encU w blk off d hH).symm, rfl⟩
  case round =>
    obtain ⟨i, jn, jz, dk, n, rfl, rfl, h1, h2, hk, hds, hwr, heq⟩ := hrel
    by_cases hlt : (i : Int) < jz
    · obtain ⟨rfl, hjn⟩ := h1 hlt
      have hij : i < jn := by omega
      have hHk : Holds encU wr blk off dk := by rw [hwr]; exact holds_putRow encU _ blk off d dk (holds_ahead encU w n blk off d hH) hds
      obtain ⟨ci, fi⟩ := hHk i (by omega)
      obtain ⟨cj, fj⟩ := hHk jn (by omega)
      have A : Aside (wr = putRow encU (Sort.ahead w n) blk off dk) := hwr
      clear hwr hHk hH h1 h2
      go_wp2_with fail
      go_region
      go_wp2
      go_roundg (jn - 1 - (i + 1))
      case measure => omega
      case rel =>
        rw [reverseLoop, if_pos hij] at heq
        exact ⟨i + 1, jn - 1, (jn : Int) - 1, swp dk i jn, n + 1, by simp, rfl, fun h => ⟨by omega, by omega⟩, fun h => by omega, Nat.le_refl _, by rw [size_swp]; exact hds,
          swap_world encU (by omega) (by omega) A.out (by simp [encU, getElem!_pos, show jn < dk.size by omega]) rfl, heq⟩
    · have hnot := h2 hlt
      go_wp2
      go_end0
      refine ⟨rfl, n, ?_⟩
      rw [reverseLoop, if_neg hnot] at heq
      rw [reverseRange, ← heq]

end Go.Proofs.Ytjfkenjmjoncbaa.Srt
namespace Go.Proofs.Ytjfkenjmjoncbaa.Srt
open Go Go.Proofs Go.RowKit Go.Sort
set_option linter.unusedVariables false
set_option linter.unusedSimpArgs false
set_option maxHeartbeats 3200000 in
set_option maxRecDepth 1000000 in
theorem siftDown_int (blk off len cap : Nat) (d : Array Int) (hlen : d.size = len) (lo hi first : Nat) (w : World) (hH : Holds encU w blk off d) (hlo : lo ≤ hi) (hb : first + hi ≤ d.size) (hsz : d.size < 4611686018427387904) :
    Calls Try.prog 62 #[.slice (some ⟨blk, off, none⟩) len cap, .int .i64 lo, .int .i64 hi, .int .i64 first] w fun e w' => e = .returned (.tuple #[]) ∧ ∃ n, w' = putRow encU (Sort.ahead w n) blk off (siftDown ltInt hi first lo d) := by
  subst hlen
  go_enter Try.func62, Try.ntmps62
  go_wp2
  go_loopg [8] (hi - lo) (fun k s8 wr => ∃ (root : Nat) (dk : Array Int) (n : Nat), s8 = .int .i64 root ∧ root ≤ hi ∧ hi - root ≤ k ∧ dk.size = d.size ∧ wr = putRow encU (Sort.ahead w n) blk off dk ∧ siftDown ltInt hi first root dk = siftDown ltInt hi first lo d)
  case atStart => exact ⟨lo, d, 0, rfl, hlo, Nat.le_refl _, rfl, (putRow_self encU w blk off d hH).symm, rfl⟩
  case round =>
    obtain ⟨root, dk, n, rfl, hr, hk, hds, hwr, heq⟩ := hrel
    have hHk : Holds encU wr blk off dk := by rw [hwr]; exact holds_putRow encU _ blk off d dk (holds_ahead encU w n blk off d hH) hds
    -- THE ROW's TWO FAMILIES (the authors' Derived/CellFam.lean finds each cell in them)
    have hcw : ∀ t, t < d.size → wr.cell? ⟨blk, off + t, none⟩ = some (.int .u64 dk[t]!) := fun t ht => (hHk t (by omega)).1
    have hfw : ∀ t, t < d.size → wr.frozen? ⟨blk, off + t, none⟩ = false := fun t ht => (hHk t (by omega)).2
    have A : Aside (wr = putRow encU (Sort.ahead w n) blk off dk) := hwr
    clear hwr hH hHk
    by_cases h0 : hi ≤ 2 * root + 1
    · -- no child: the loop is left
      have h0z : (hi : Int) ≤ 2 * (root : Int) + 1 := by omega
      go_wp2
      go_end0
      refine ⟨rfl, n, ?_⟩
      rw [A.out, ← heq, sd_end ltInt dk h0]
    · -- (the tests, AS THE WALK SPELLS THEM: over Int: a guard that is not decided stops the quiet walk)
      have h0z : ¬ ((hi : Int) ≤ 2 * (root : Int) + 1) := by omega
      by_cases h1 : 2 * root + 2 < hi
      · have h1z : 2 * (root : Int) + 1 + 1 < (hi : Int) := by omega
        go_wp2_with fail
        go_big_quiet (first | (go_at_call 45; refine Calls.quiet_of_same (cmp_Less_int _ _ _)))
        go_wp2_with fail
        · -- THE RIGHT CHILD IS THE GREATER
          have hL : ltInt dk[first + 2 * root + 1]! dk[first + 2 * root + 2]! = true := by assumption
          revert nq; intro nq1      -- (the next quiet region brings an 'nq' of its own)
          have hcw2 : ∀ t, t < d.size → (wr.drewN nq1).cell? ⟨blk, off + t, none⟩ = some (.int .u64 dk[t]!) := hcw
          have hfw2 : ∀ t, t < d.size → (wr.drewN nq1).frozen? ⟨blk, off + t, none⟩ = false := hfw
          have A2 : Aside (wr.drewN nq1 = putRow encU (Sort.ahead w (n + nq1)) blk off dk) := drewN_world encU A.out nq1
          clear hcw hfw A
          generalize wr.drewN nq1 = wr2 at hcw2 hfw2 A2 ⊢
          go_big_quiet (first | (go_at_call 45; refine Calls.quiet_of_same (cmp_Less_int _ _ _)))
          go_wp2_with fail
          · -- the hole is not less than the greater child: return
            have hS : ltInt dk[first + root]! dk[first + 2 * root + 2]! = false := by
              have : (!ltInt dk[first + root]! dk[first + 2 * root + 2]!) = true := by assumption
              simpa using this
            (try simp only [Exit.inBlock, Exit.then]); refine bodyPost_ret (results_none rfl _ _ _) rfl ?_      -- (an explicit 'return' of a function without results)
            refine ⟨rfl, n + nq1 + nq, ?_⟩
            rw [drewN_world encU A2.out nq, ← heq, sd_right_stop ltInt dk h1 hL hS]
          · -- it is: they are swapped, and the hole goes down
            have hG : ltInt dk[first + root]! dk[first + 2 * root + 2]! = true := by
              have : (!ltInt dk[first + root]! dk[first + 2 * root + 2]!) = false := by assumption
              simpa using this
            have hcw3 : ∀ t, t < d.size → (wr2.drewN nq).cell? ⟨blk, off + t, none⟩ = some (.int .u64 dk[t]!) := hcw2
            have hfw3 : ∀ t, t < d.size → (wr2.drewN nq).frozen? ⟨blk, off + t, none⟩ = false := hfw2
            have A3 : Aside (wr2.drewN nq = putRow encU (Sort.ahead w (n + nq1 + nq)) blk off dk) := drewN_world encU A2.out nq
            clear hcw2 hfw2 A2
            generalize wr2.drewN nq = wr3 at hcw3 hfw3 A3 ⊢
            go_region
            go_wp2
            go_roundg (hi - (2 * root + 2))
            case measure => omega
            case rel =>
              refine ⟨2 * root + 2, swp dk (first + root) (first + (2 * root + 1 + 1)), n + nq1 + nq + 1, by simp <;> omega, by omega, Nat.le_refl _, by rw [size_swp]; exact hds, swap_world encU (by omega) (by omega) A3.out rfl rfl, ?_⟩
              rw [← heq, sd_right_go ltInt dk h1 hL hG]
        · -- THE LEFT CHILD IS NOT LESS THAN THE RIGHT
          have hL : ltInt dk[first + 2 * root + 1]! dk[first + 2 * root + 2]! = false := by assumption
          revert nq; intro nq1      -- (the next quiet region brings an 'nq' of its own)
          have hcw2 : ∀ t, t < d.size → (wr.drewN nq1).cell? ⟨blk, off + t, none⟩ = some (.int .u64 dk[t]!) := hcw
          have hfw2 : ∀ t, t < d.size → (wr.drewN nq1).frozen? ⟨blk, off + t, none⟩ = false := hfw
          have A2 : Aside (wr.drewN nq1 = putRow encU (Sort.ahead w (n + nq1)) blk off dk) := drewN_world encU A.out nq1
          clear hcw hfw A
          generalize wr.drewN nq1 = wr2 at hcw2 hfw2 A2 ⊢
          go_big_quiet (first | (go_at_call 45; refine Calls.quiet_of_same (cmp_Less_int _ _ _)))
          go_wp2_with fail
          · -- the hole is not less than the greater child: return
            have hS : ltInt dk[first + root]! dk[first + 2 * root + 1]! = false := by
              have : (!ltInt dk[first + root]! dk[first + 2 * root + 1]!) = true := by assumption
              simpa using this
            (try simp only [Exit.inBlock, Exit.then]); refine bodyPost_ret (results_none rfl _ _ _) rfl ?_      -- (an explicit 'return' of a function without results)
            refine ⟨rfl, n + nq1 + nq, ?_⟩
            rw [drewN_world encU A2.out nq, ← heq, sd_left_stop ltInt dk (by omega) (fun _ => hL) hS]
          · -- it is: they are swapped, and the hole goes down
            have hG : ltInt dk[first + root]! dk[first + 2 * root + 1]! = true := by
              have : (!ltInt dk[first + root]! dk[first + 2 * root + 1]!) = false := by assumption
              simpa using this
            have hcw3 : ∀ t, t < d.size → (wr2.drewN nq).cell? ⟨blk, off + t, none⟩ = some (.int .u64 dk[t]!) := hcw2
            have hfw3 : ∀ t, t < d.size → (wr2.drewN nq).frozen? ⟨blk, off + t, none⟩ = false := hfw2
            have A3 : Aside (wr2.drewN nq = putRow encU (Sort.ahead w (n + nq1 + nq)) blk off dk) := drewN_world encU A2.out nq
            clear hcw2 hfw2 A2
            generalize wr2.drewN nq = wr3 at hcw3 hfw3 A3 ⊢
            go_region
            go_wp2
            go_roundg (hi - (2 * root + 1))
            case measure => omega
            case rel =>
              refine ⟨2 * root + 1, swp dk (first + root) (first + (2 * root + 1)), n + nq1 + nq + 1, by simp <;> omega, by omega, Nat.le_refl _, by rw [size_swp]; exact hds, swap_world encU (by omega) (by omega) A3.out rfl rfl, ?_⟩
              rw [← heq, sd_left_go ltInt dk (by omega) (fun _ => hL) hG]
      · -- THERE IS NO RIGHT CHILD
        have h1z : decide (2 * (root : Int) + 1 + 1 < (hi : Int)) = false := decide_eq_false (by omega)      -- (a guard that is FALSE: said so outright: from '¬ ..' the walk did not decide it)
        go_wp2_with fail
        go_big_quiet (first | (go_at_call 45; refine Calls.quiet_of_same (cmp_Less_int _ _ _)))
        go_wp2_with fail
        revert nq; intro nq1      -- (the next quiet region brings an 'nq' of its own)
        have hcw2 : ∀ t, t < d.size → (wr.drewN nq1).cell? ⟨blk, off + t, none⟩ = some (.int .u64 dk[t]!) := hcw
        have hfw2 : ∀ t, t < d.size → (wr.drewN nq1).frozen? ⟨blk, off + t, none⟩ = false := hfw
        have A2 : Aside (wr.drewN nq1 = putRow encU (Sort.ahead w (n + nq1)) blk off dk) := drewN_world encU A.out nq1
        clear hcw hfw A
        generalize wr.drewN nq1 = wr2 at hcw2 hfw2 A2 ⊢
        go_big_quiet (first | (go_at_call 45; refine Calls.quiet_of_same (cmp_Less_int _ _ _)))
        go_wp2_with fail
        · -- the hole is not less than the greater child: return
          have hS : ltInt dk[first + root]! dk[first + 2 * root + 1]! = false := by
            have : (!ltInt dk[first + root]! dk[first + 2 * root + 1]!) = true := by assumption
            simpa using this
          (try simp only [Exit.inBlock, Exit.then]); refine bodyPost_ret (results_none rfl _ _ _) rfl ?_      -- (an explicit 'return' of a function without results)
          refine ⟨rfl, n + nq1 + nq, ?_⟩
          rw [drewN_world encU A2.out nq, ← heq, sd_left_stop ltInt dk (by omega) (fun h => absurd h h1) hS]
        · -- it is: they are swapped, and the hole goes down
          have hG : ltInt dk[first + root]! dk[first + 2 * root + 1]! = true := by
            have : (!ltInt dk[first + root]! dk[first + 2 * root + 1]!) = false := by assumption
            simpa using this
          have hcw3 : ∀ t, t < d.size → (wr2.drewN nq).cell? ⟨blk, off + t, none⟩ = some (.int .u64 dk[t]!) := hcw2
          have hfw3 : ∀ t, t < d.size → (wr2.drewN nq).frozen? ⟨blk, off + t, none⟩ = false := hfw2
          have A3 : Aside (wr2.drewN nq = putRow encU (Sort.ahead w (n + nq1 + nq)) blk off dk) := drewN_world encU A2.out nq
          clear hcw2 hfw2 A2
          generalize wr2.drewN nq = wr3 at hcw3 hfw3 A3 ⊢
          go_region
          go_wp2
          go_roundg (hi - (2 * root + 1))
          case measure => omega
          case rel =>
            refine ⟨2 * root + 1, swp dk (first + root) (first + (2 * root + 1)), n + nq1 + nq + 1, by simp <;> omega, by omega, Nat.le_refl _, by rw [size_swp]; exact hds, swap_world encU (by omega) (by omega) A3.out rfl rfl, ?_⟩
            rw [← heq, sd_left_go ltInt dk (by omega) (fun h => absurd h h1) hG]

end Go.Proofs.Ytjfkenjmjoncbaa.Srt
namespace Go.Proofs.Ytjfkenjmjoncbaa.Srt
open Go Go.Proofs Go.RowKit Go.Sort
set_option linter.unusedVariables false
set_option linter.unusedSimpArgs false
set_option maxHeartbeats 3200000 in
set_option maxRecDepth 1000000 in
theorem heapSort_int (blk off len cap : Nat) (d : Array Int) (hlen : d.size = len) (a b : Nat) (w : World) (hH : Holds encU w blk off d) (hab : a ≤ b) (hb : b ≤ d.size) (hsz : d.size < 4611686018427387904) :
    Calls Try.prog 53 #[.slice (some ⟨blk, off, none⟩) len cap, .int .i64 a, .int .i64 b] w fun e w' => e = .returned (.tuple #[]) ∧ ∃ n, w' = putRow encU (Sort.ahead w n) blk off (heapSort ltInt d a b) := by
  subst hlen
  have ecast : ((b - a : Nat) : Int) = (b : Int) - (a : Int) := by omega
  go_enter Try.func53, Try.ntmps53
  go_wp2
  go_loopg [9] ((b - a - 1) / 2 + 1) (fun k s9 wr => s9 = .int .i64 ((k : Int) - 1) ∧ k ≤ (b - a - 1) / 2 + 1 ∧ ∃ (dk : Array Int) (n : Nat), dk.size = d.size ∧ wr = putRow encU (Sort.ahead w n) blk off dk ∧
    heapBuild ltInt (b - a) a k dk = heapBuild ltInt (b - a) a ((b - a - 1) / 2 + 1) d)
  case atStart => exact ⟨by rw [half_start hab], Nat.le_refl _, d, 0, rfl, (putRow_self encU w blk off d hH).symm, rfl⟩
  case round =>
    obtain ⟨rfl, hkk, dk, n, hds, hwr, heq⟩ := hrel
    have hHk : Holds encU wr blk off dk := by rw [hwr]; exact holds_putRow encU _ blk off d dk (holds_ahead encU w n blk off d hH) hds
    have A : Aside (wr = putRow encU (Sort.ahead w n) blk off dk) := hwr
    clear hwr
    cases gk with
    | zero =>
      -- THE HEAP IS BUILT; NOW THE GREATEST IS TAKEN OFF, TIME AND AGAIN
      have hB : dk = heapBuild ltInt (b - a) a ((b - a - 1) / 2 + 1) d := heq
      clear heq hHk hkk
      go_wp2
      go_loopg [10] (b - a) (fun k s10 wr2 => s10 = .int .i64 ((k : Int) - 1) ∧ k ≤ b - a ∧ ∃ (dj : Array Int) (n2 : Nat), dj.size = d.size ∧ wr2 = putRow encU (Sort.ahead w n2) blk off dj ∧ heapPop ltInt a k dj = heapPop ltInt a (b - a) dk)
      case atStart => exact ⟨by rw [ecast], Nat.le_refl _, dk, n, hds, A.out, rfl⟩
      case round =>
        obtain ⟨rfl, hkk, dj, n2, hdj, hwr2, heq2⟩ := hrel
        cases gk with
        | zero =>
          go_wp2
          go_end0
          refine ⟨rfl, n2, ?_⟩
          have e : dj = heapSort ltInt d a b := by rw [heapSort, ← hB, ← heq2]; rfl
          rw [← e]
        | succ k =>
          have hHj : Holds encU wr blk off dj := by rw [hwr2]; exact holds_putRow encU _ blk off d dj (holds_ahead encU w n2 blk off d hH) hdj
          have hcw : ∀ t, t < d.size → wr.cell? ⟨blk, off + t, none⟩ = some (.int .u64 dj[t]!) := fun t ht => (hHj t (by omega)).1
          have hfw : ∀ t, t < d.size → wr.frozen? ⟨blk, off + t, none⟩ = false := fun t ht => (hHj t (by omega)).2
          have A2 : Aside (wr = putRow encU (Sort.ahead w n2) blk off dj) := hwr2
          clear hwr2 hHj
          -- ✋ AT THE LAST ROUND (i = 0) 'data[first]' AND 'data[first+i]' ARE ONE CELL: the walk cannot tell whether the second store hits the cell just written: PART AHEAD OF THE REGION
          rcases Nat.eq_zero_or_pos k with hk0 | hkp
          · subst hk0
            go_wp2_with fail
            go_region
            go_wp2_with fail
            rw [swap_world encU (i := a) (j := a) (by omega) (by omega) A2.out rfl rfl]
            refine (siftDown_int blk off d.size cap (swp dj a (a)) (by rw [size_swp]; exact hdj) 0 0 a _ (holds_putRow encU _ blk off d _ (holds_ahead encU w (n2 + 1) blk off d hH) (by rw [size_swp]; exact hdj)) (Nat.zero_le _) (by rw [size_swp]; omega) (by rw [size_swp]; omega)).mono ?_
            rintro e w1 ⟨rfl, m, hw1⟩
            go_wp2
            go_roundg 0
            case measure => omega
            case rel =>
              refine ⟨by simp, by omega, siftDown ltInt 0 a 0 (swp dj a (a)), n2 + 1 + m, by rw [size_siftDown ltInt _ _ _ _ _ (Nat.le_refl _), size_swp]; exact hdj, ?_, heq2⟩
              first
                | rw [hw1, putRow_ahead_putRow encU w (n2 + 1) m blk off _ _ (size_siftDown ltInt _ _ _ _ _ (Nat.le_refl _))]
                | rw [putRow_ahead_putRow encU w (n2 + 1) m blk off _ _ (size_siftDown ltInt _ _ _ _ _ (Nat.le_refl _))]
          · skip
            go_wp2_with fail
            go_region
            go_wp2_with fail
            rw [swap_world encU (i := a) (j := a + k) (by omega) (by omega) A2.out rfl rfl]
            refine (siftDown_int blk off d.size cap (swp dj a (a + k)) (by rw [size_swp]; exact hdj) 0 k a _ (holds_putRow encU _ blk off d _ (holds_ahead encU w (n2 + 1) blk off d hH) (by rw [size_swp]; exact hdj)) (Nat.zero_le _) (by rw [size_swp]; omega) (by rw [size_swp]; omega)).mono ?_
            rintro e w1 ⟨rfl, m, hw1⟩
            go_wp2
            go_roundg k
            case measure => omega
            case rel =>
              refine ⟨by simp, by omega, siftDown ltInt k a 0 (swp dj a (a + k)), n2 + 1 + m, by rw [size_siftDown ltInt _ _ _ _ _ (Nat.le_refl _), size_swp]; exact hdj, ?_, heq2⟩
              first
                | rw [hw1, putRow_ahead_putRow encU w (n2 + 1) m blk off _ _ (size_siftDown ltInt _ _ _ _ _ (Nat.le_refl _))]
                | rw [putRow_ahead_putRow encU w (n2 + 1) m blk off _ _ (size_siftDown ltInt _ _ _ _ _ (Nat.le_refl _))]
    | succ k =>
      have hcall := siftDown_int blk off d.size cap dk hds k (b - a) a wr hHk (by omega) (by omega) (by omega)
      rw [ecast] at hcall
      go_wp2_with (go_at_call 62; refine hcall.mono ?_; rintro e w1 ⟨rfl, m, hw1⟩)
      go_roundg k
      case measure => omega
      case rel =>
        refine ⟨by simp, by omega, siftDown ltInt (b - a) a k dk, n + m, by rw [size_siftDown ltInt _ _ _ _ _ (Nat.le_refl _)]; exact hds, ?_, heq⟩
        rw [A.out, putRow_ahead_putRow encU w n m blk off dk _ (size_siftDown ltInt _ _ _ _ _ (Nat.le_refl _))]

end Go.Proofs.Ytjfkenjmjoncbaa.Srt
namespace Go.Proofs.Ytjfkenjmjoncbaa.Srt
open Go Go.Proofs Go.RowKit Go.Sort
set_option linter.unusedVariables false
set_option linter.unusedSimpArgs false
set_option maxHeartbeats 6400000 in
set_option maxRecDepth 100000 in
theorem partitionEqual_int (blk off cap a b pivot : Nat) (d : Array Int) (w : World) (hH : Holds (Value.int .u64) w blk off d) (hap : a ≤ pivot) (hpb : pivot < b) (hb : b ≤ d.size) (hsz : d.size < 4611686018427387904) :
    Calls Try.prog 58 #[.slice (some ⟨blk, off, none⟩) d.size cap, .int .i64 a, .int .i64 b, .int .i64 pivot] w fun e w' =>
      e = .returned (.int .i64 (Sort.partitionEqual Sort.ltInt d a b pivot).1) ∧ ∃ n, w' = (putRow (Value.int .u64) w blk off (Sort.partitionEqual Sort.ltInt d a b pivot).2).drewN n := by
  have hla : a < d.size := by omega
  have hlp : pivot < d.size := by omega
  -- THE ROW's CONTENTS UNDER A NAME OF THEIR OWN: with 'pivot < d.size' at hand the walk's simp turns 'd[pivot]!' into 'd[pivot]', and a fact spelt the other way no longer strikes
  obtain ⟨G, hG⟩ : ∃ G : Nat → Int, ∀ j, G j = d[j]! := ⟨fun j => d[j]!, fun _ => rfl⟩
  have ca : w.cell? ⟨blk, off + a, none⟩ = some (.int .u64 (G a)) := by rw [hG]; exact (hH a hla).1
  have fa := (hH a hla).2
  have cp : w.cell? ⟨blk, off + pivot, none⟩ = some (.int .u64 (G pivot)) := by rw [hG]; exact (hH pivot hlp).1
  have fp := (hH pivot hlp).2
  obtain ⟨v', hy'⟩ := cell?_setCell_some (w := w) (p := ⟨blk, off + a, none⟩) (x := .int .u64 (G pivot)) (q := ⟨blk, off + pivot, none⟩) cp
  have AG : Hid (∀ j, G j = d[j]!) := hG
  have AH : Hid (Holds (Value.int .u64) w blk off d) := hH
  clear hG hH
  go_enter Try.func58, Try.ntmps58
  go_wp2
  go_region
  go_wp2
  -- THE 'for {'
  go_loopw [9, 10] (fun vi vj wr => ∃ (i j n : Nat) (dk : Array Int), vi = .int .i64 i ∧ vj = .int .i64 j ∧ a < i ∧ i ≤ j + 1 ∧ j < b ∧ dk.size = d.size ∧ wr = (putRow (Value.int .u64) w blk off dk).drewN n ∧
      Sort.partEqLoop Sort.ltInt a i j dk = Sort.partEqLoop Sort.ltInt a (a + 1) (b - 1) (Sort.swp d a pivot))
    (fun vi vj _ => (intOf vj).toNat + 1 - (intOf vi).toNat)
  case atStart =>
    refine ⟨a + 1, b - 1, 1, Sort.swp d a pivot, by go_num, by go_num, by omega, by omega, by omega, size_swp _ _ _, ?_, rfl⟩
    have e := swap_worldC (Value.int .u64) w blk off d 0 a pivot hla hlp
    rw [putRow_self _ w blk off d AH.out] at e
    rw [AG.out a, AG.out pivot]
    exact e
  case round =>
    obtain ⟨i, j, n, dk, rfl, rfl, hai, hij, hjb, hs, hw, heq⟩ := hrel
    clear ca fa cp fp hy' v' AG
    rename World => W1
    have hHk : Holds (Value.int .u64) W1 blk off dk := by
      rw [hw]
      exact holds_putRow (Value.int .u64) w blk off d dk AH.out hs
    obtain ⟨Gk, hG⟩ : ∃ Gk : Nat → Int, ∀ t, Gk t = dk[t]! := ⟨fun t => dk[t]!, fun _ => rfl⟩
    have hc : ∀ t, t < d.size → W1.cell? ⟨blk, off + t, none⟩ = some (.int .u64 (Gk t)) := fun t ht => by rw [hG]; exact (hHk t (by omega)).1
    have hf : ∀ t, t < d.size → W1.frozen? ⟨blk, off + t, none⟩ = false := fun t ht => (hHk t (by omega)).2
    have AG : Hid (∀ t, Gk t = dk[t]!) := hG
    have AW : Hid (W1 = (putRow (Value.int .u64) w blk off dk).drewN n) := hw
    have AE : Hid (Sort.partEqLoop Sort.ltInt a i j dk = Sort.partEqLoop Sort.ltInt a (a + 1) (b - 1) (Sort.swp d a pivot)) := heq
    clear hG hw heq hHk
    go_wp2
    -- THE UPWARD SCAN
    go_loopw [9] (fun vi w1 => ∃ (i' n1 : Nat), vi = .int .i64 i' ∧ i ≤ i' ∧ i' ≤ j + 1 ∧ w1 = W1.drewN n1 ∧
        Hid (Sort.scanUp (fun x => !Sort.ltInt dk[a]! x) dk j i' = Sort.scanUp (fun x => !Sort.ltInt dk[a]! x) dk j i))
      (fun vi _ => j + 1 - (intOf vi).toNat)
    case atStart => exact ⟨i, 0, rfl, Nat.le_refl _, hij, rfl, rfl⟩
    case round =>
      obtain ⟨i', n1, rfl, hii, hij', hw1, hsc⟩ := hrel
      -- THE ROUND's WORLD STAYS A VARIABLE (as 'W1.drewN n1' the walk's simp would merge the draws, and the quiet law's end would not fit)
      have hcw : ∀ t, t < d.size → wr.cell? ⟨blk, off + t, none⟩ = some (.int .u64 (Gk t)) := fun t ht => by rw [hw1]; exact hc t ht
      have HW1 : Hid (wr = W1.drewN n1) := hw1
      clear hw1
      by_cases hle : i' ≤ j
      · go_wp2_with fail
        go_big_quiet (first | (go_at_call 45; refine Calls.quiet_of_same (cmp_Less_int _ _ _)))
        go_wp2
        · -- it goes on: i++
          have ht : (!Sort.ltInt (Gk a) (Gk i')) = true := by assumption
          go_roundw
          case rel => exact ⟨i' + 1, n1 + nq, by go_num, by omega, by omega, by rw [HW1.out, World.drewN_drewN], (scanUp_go (fun x => !Sort.ltInt dk[a]! x) dk j i' hle (by rw [← AG.out a, ← AG.out i']; exact ht)).symm.trans hsc.out⟩
          case measure => simp [intOf]; omega
        · -- it stops: the test has failed
          have ht : (!Sort.ltInt (Gk a) (Gk i')) = false := by assumption
          have hi2 : Hid (i' = Sort.scanUp (fun x => !Sort.ltInt dk[a]! x) dk j i) := (scanUp_end (fun x => !Sort.ltInt dk[a]! x) dk j i' (Or.inr (by rw [← AG.out a, ← AG.out i']; exact ht))).symm.trans hsc.out
          clear ht
          -- THE DOWNWARD SCAN
          have hw2 : wr.drewN nq = W1.drewN (n1 + nq) := by rw [HW1.out, World.drewN_drewN]
          clear hcw HW1 hsc
          go_loopw [10] (fun vj w2 => ∃ (j' n2 : Nat), vj = .int .i64 j' ∧ j' ≤ j ∧ i' ≤ j' + 1 ∧ w2 = W1.drewN n2 ∧
              Hid (Sort.scanDown (fun x => Sort.ltInt dk[a]! x) dk i' j' = Sort.scanDown (fun x => Sort.ltInt dk[a]! x) dk i' j))
            (fun vj _ => (intOf vj).toNat)
          case atStart => exact ⟨j, n1 + nq, rfl, Nat.le_refl _, hij', hw2, rfl⟩
          case round =>
            clear hw2
            obtain ⟨j', n2, rfl, hjj, hij2, hw2, hsd⟩ := hrel
            have hcw : ∀ t, t < d.size → wr.cell? ⟨blk, off + t, none⟩ = some (.int .u64 (Gk t)) := fun t ht => by rw [hw2]; exact hc t ht
            have HW2 : Hid (wr = W1.drewN n2) := hw2
            clear hw2
            by_cases hle2 : i' ≤ j'
            · go_wp2_with fail
              go_big_quiet (first | (go_at_call 45; refine Calls.quiet_of_same (cmp_Less_int _ _ _)))
              go_wp2
              · -- it goes on: j--
                have ht : Sort.ltInt (Gk a) (Gk j') = true := by assumption
                go_roundw
                case rel => exact ⟨j' - 1, n2 + nq, by go_num, by omega, by omega, by rw [HW2.out, World.drewN_drewN], (scanDown_go (fun x => Sort.ltInt dk[a]! x) dk i' j' hle2 (by omega) (by rw [← AG.out a, ← AG.out j']; exact ht)).symm.trans hsd.out⟩
                case measure => simp [intOf]; omega
              · -- it stops: the test has failed
                have ht : Sort.ltInt (Gk a) (Gk j') = false := by assumption
                have hj2 : Hid (j' = Sort.scanDown (fun x => Sort.ltInt dk[a]! x) dk i' j) := (scanDown_end (fun x => Sort.ltInt dk[a]! x) dk i' j' (Or.inr (by rw [← AG.out a, ← AG.out j']; exact ht))).symm.trans hsd.out
                clear hcw hsd ht
                -- BEHIND BOTH SCANS
                have hw3 : wr.drewN nq = W1.drewN (n2 + nq) := by rw [HW2.out, World.drewN_drewN]
                generalize wr.drewN nq = W3 at hw3 ⊢
                have hc3 : ∀ t, t < d.size → W3.cell? ⟨blk, off + t, none⟩ = some (.int .u64 (Gk t)) := fun t ht => by rw [hw3]; exact hc t ht
                have hf3 : ∀ t, t < d.size → W3.frozen? ⟨blk, off + t, none⟩ = false := fun t ht => by rw [hw3]; exact hf t ht
                have HW3 : Hid (W3 = W1.drewN (n2 + nq)) := hw3
                clear hw3
                -- the exchange; i++; j--
                obtain ⟨v3, hy3⟩ := cell?_setCell_some (w := W3) (p := ⟨blk, off + i', none⟩) (x := .int .u64 (Gk j')) (q := ⟨blk, off + j', none⟩) (hc3 j' (by omega))
                have hlt3 := scans_lt Sort.ltInt a i j dk (by omega) hi2.out hj2.out hle2
                go_wp2
                go_region
                all_goals go_wp2
                all_goals go_roundw
                case rel =>
                  refine ⟨i' + 1, j' - 1, n + (n2 + nq) + 1, Sort.swp dk i' j', by go_num, by go_num, by omega, by omega, by omega, by rw [size_swp]; exact hs, ?_, ?_⟩
                  · rw [HW3.out, AW.out, World.drewN_drewN, AG.out i', AG.out j']
                    exact swap_worldC (Value.int .u64) w blk off dk _ i' j' (by omega) (by omega)
                  · rw [← AE.out]; exact (partEq_go Sort.ltInt a i j dk hi2.out hj2.out (by omega)).symm
                case measure => simp [intOf]; omega
            · go_wp2_with fail
              go_big_quiet (first | (go_at_call 45; refine Calls.quiet_of_same (cmp_Less_int _ _ _)))
              -- it stops: i > j
              have hj2 : Hid (j' = Sort.scanDown (fun x => Sort.ltInt dk[a]! x) dk i' j) := (scanDown_end (fun x => Sort.ltInt dk[a]! x) dk i' j' (Or.inl hle2)).symm.trans hsd.out
              clear hcw hsd
              -- BEHIND BOTH SCANS
              have hw3 : wr.drewN nq = W1.drewN (n2 + nq) := by rw [HW2.out, World.drewN_drewN]
              generalize wr.drewN nq = W3 at hw3 ⊢
              have hc3 : ∀ t, t < d.size → W3.cell? ⟨blk, off + t, none⟩ = some (.int .u64 (Gk t)) := fun t ht => by rw [hw3]; exact hc t ht
              have hf3 : ∀ t, t < d.size → W3.frozen? ⟨blk, off + t, none⟩ = false := fun t ht => by rw [hw3]; exact hf t ht
              have HW3 : Hid (W3 = W1.drewN (n2 + nq)) := hw3
              clear hw3
              -- i > j: break; return i
              go_wp2
              go_ret
              have e := partEq_break Sort.ltInt a i j dk hi2.out hj2.out (by omega)
              refine ⟨?_, n + (n2 + nq), ?_⟩
              · unfold Sort.partitionEqual; rw [← AE.out, e]; rfl
              · unfold Sort.partitionEqual; rw [← AE.out, e, HW3.out, AW.out, World.drewN_drewN]
      · go_wp2_with fail
        go_big_quiet (first | (go_at_call 45; refine Calls.quiet_of_same (cmp_Less_int _ _ _)))
        go_wp2
        -- it stops: i > j
        have hi2 : Hid (i' = Sort.scanUp (fun x => !Sort.ltInt dk[a]! x) dk j i) := (scanUp_end (fun x => !Sort.ltInt dk[a]! x) dk j i' (Or.inl hle)).symm.trans hsc.out
        -- THE DOWNWARD SCAN
        have hw2 : wr.drewN nq = W1.drewN (n1 + nq) := by rw [HW1.out, World.drewN_drewN]
        clear hcw HW1 hsc
        go_loopw [10] (fun vj w2 => ∃ (j' n2 : Nat), vj = .int .i64 j' ∧ j' ≤ j ∧ i' ≤ j' + 1 ∧ w2 = W1.drewN n2 ∧
            Hid (Sort.scanDown (fun x => Sort.ltInt dk[a]! x) dk i' j' = Sort.scanDown (fun x => Sort.ltInt dk[a]! x) dk i' j))
          (fun vj _ => (intOf vj).toNat)
        case atStart => exact ⟨j, n1 + nq, rfl, Nat.le_refl _, hij', hw2, rfl⟩
        case round =>
          clear hw2
          obtain ⟨j', n2, rfl, hjj, hij2, hw2, hsd⟩ := hrel
          have hcw : ∀ t, t < d.size → wr.cell? ⟨blk, off + t, none⟩ = some (.int .u64 (Gk t)) := fun t ht => by rw [hw2]; exact hc t ht
          have HW2 : Hid (wr = W1.drewN n2) := hw2
          clear hw2
          by_cases hle2 : i' ≤ j'
          · exfalso; omega      -- the upward scan has run past j, and j' ≤ j
          · go_wp2_with fail
            go_big_quiet (first | (go_at_call 45; refine Calls.quiet_of_same (cmp_Less_int _ _ _)))
            -- it stops: i > j
            have hj2 : Hid (j' = Sort.scanDown (fun x => Sort.ltInt dk[a]! x) dk i' j) := (scanDown_end (fun x => Sort.ltInt dk[a]! x) dk i' j' (Or.inl hle2)).symm.trans hsd.out
            clear hcw hsd
            -- BEHIND BOTH SCANS
            have hw3 : wr.drewN nq = W1.drewN (n2 + nq) := by rw [HW2.out, World.drewN_drewN]
            generalize wr.drewN nq = W3 at hw3 ⊢
            have hc3 : ∀ t, t < d.size → W3.cell? ⟨blk, off + t, none⟩ = some (.int .u64 (Gk t)) := fun t ht => by rw [hw3]; exact hc t ht
            have hf3 : ∀ t, t < d.size → W3.frozen? ⟨blk, off + t, none⟩ = false := fun t ht => by rw [hw3]; exact hf t ht
            have HW3 : Hid (W3 = W1.drewN (n2 + nq)) := hw3
            clear hw3
            -- i > j: break; return i
            go_wp2
            go_ret
            have e := partEq_break Sort.ltInt a i j dk hi2.out hj2.out (by omega)
            refine ⟨?_, n + (n2 + nq), ?_⟩
            · unfold Sort.partitionEqual; rw [← AE.out, e]; rfl
            · unfold Sort.partitionEqual; rw [← AE.out, e, HW3.out, AW.out, World.drewN_drewN]

theorem partitionEqualOrdered_int (blk off cap a b pivot : Nat) (d : Array Int) (w : World) (hH : Holds (Value.int .u64) w blk off d) (hap : a ≤ pivot) (hpb : pivot < b) (hb : b ≤ d.size) (hsz : d.size < 4611686018427387904) :
    Calls Try.prog 58 #[.slice (some ⟨blk, off, none⟩) d.size cap, .int .i64 a, .int .i64 b, .int .i64 pivot] w fun e w' =>
      e = .returned (.int .i64 (Sort.partitionEqual Sort.ltInt d a b pivot).1) ∧ ∃ n, w' = putRow (Value.int .u64) (Sort.ahead w n) blk off (Sort.partitionEqual Sort.ltInt d a b pivot).2 :=
  (partitionEqual_int blk off cap a b pivot d w hH hap hpb hb hsz).mono fun _ _ ⟨he, n, hw⟩ => ⟨he, n, hw⟩
end Go.Proofs.Ytjfkenjmjoncbaa.Srt
namespace Go.Proofs.Ytjfkenjmjoncbaa.Srt
open Go Go.Proofs Go.RowKit Go.Sort
set_option linter.unusedVariables false
set_option linter.unusedSimpArgs false
set_option maxHeartbeats 12800000 in
set_option maxRecDepth 100000 in
theorem partition_int (blk off cap a b pivot : Nat) (d : Array Int) (w : World) (hH : Holds (Value.int .u64) w blk off d) (hap : a ≤ pivot) (hpb : pivot < b) (hb : b ≤ d.size) (hsz : d.size < 4611686018427387904) :
    Calls Try.prog 59 #[.slice (some ⟨blk, off, none⟩) d.size cap, .int .i64 a, .int .i64 b, .int .i64 pivot] w fun e w' =>
      e = .returned (.tuple #[.int .i64 (Sort.partition Sort.ltInt d a b pivot).1, .bool (Sort.partition Sort.ltInt d a b pivot).2.1]) ∧ ∃ n, w' = (putRow (Value.int .u64) w blk off (Sort.partition Sort.ltInt d a b pivot).2.2).drewN n := by
  have hla : a < d.size := by omega
  have hlp : pivot < d.size := by omega
  obtain ⟨G, hG⟩ : ∃ G : Nat → Int, ∀ j, G j = d[j]! := ⟨fun j => d[j]!, fun _ => rfl⟩
  have ca : w.cell? ⟨blk, off + a, none⟩ = some (.int .u64 (G a)) := by rw [hG]; exact (hH a hla).1
  have fa := (hH a hla).2
  have cp : w.cell? ⟨blk, off + pivot, none⟩ = some (.int .u64 (G pivot)) := by rw [hG]; exact (hH pivot hlp).1
  have fp := (hH pivot hlp).2
  obtain ⟨v', hy'⟩ := cell?_setCell_some (w := w) (p := ⟨blk, off + a, none⟩) (x := .int .u64 (G pivot)) (q := ⟨blk, off + pivot, none⟩) cp
  have hw : ((w.setCell ⟨blk, off + a, none⟩ (.int .u64 (G pivot))).setCell ⟨blk, off + pivot, none⟩ (.int .u64 (G a))).drew = (putRow (Value.int .u64) w blk off (Sort.swp d a pivot)).drewN 1 := by
    have e := swap_worldC (Value.int .u64) w blk off d 0 a pivot hla hlp
    rw [putRow_self _ w blk off d hH] at e
    rw [hG a, hG pivot]
    exact e
  have AH : Hid (Holds (Value.int .u64) w blk off d) := hH
  have HW0 := Hid.mk' hw
  clear hG hH hw
  go_enter Try.func59, Try.ntmps59
  go_wp2
  go_region
  go_wp2
  -- THE FIRST ROUND's STATE UNDER THE NAMES THAT EVERY ROUND USES
  clear ca fa cp fp hy' v'
  have hw := HW0.out
  clear HW0
  generalize ((w.setCell ⟨blk, off + a, none⟩ (.int .u64 (G pivot))).setCell ⟨blk, off + pivot, none⟩ (.int .u64 (G a))).drew = W1 at hw ⊢
  obtain ⟨dk, hdk⟩ : ∃ dk, dk = Sort.swp d a pivot := ⟨_, rfl⟩
  obtain ⟨n, hn⟩ : ∃ n : Nat, n = 1 := ⟨_, rfl⟩
  rw [← hdk, ← hn] at hw
  clear hn
  have hs : dk.size = d.size := by rw [hdk, size_swp]
  have e1 : ((a : Int) + 1) = ((a + 1 : Nat) : Int) := by omega
  have e2 : ((b : Int) - 1) = ((b - 1 : Nat) : Int) := by omega
  rw [e1, e2]
  clear e1 e2
  obtain ⟨i, hi⟩ : ∃ i, i = a + 1 := ⟨_, rfl⟩
  obtain ⟨j, hj⟩ : ∃ j, j = b - 1 := ⟨_, rfl⟩
  rw [← hi, ← hj]
  have hai : a < i := by omega
  have hij : i ≤ j + 1 := by omega
  have hjb : j < b := by omega
  -- (the walk takes every hypothesis for a rule: 'j = b - 1' would write j out again, and the test's guard 'i' ≤ j' would not be known)
  have HI := Hid.mk' hi
  have HJ := Hid.mk' hj
  have HDK := Hid.mk' hdk
  clear hi hj hdk
  have hHk : Holds (Value.int .u64) W1 blk off dk := by
    rw [hw]
    exact holds_putRow (Value.int .u64) w blk off d dk AH.out hs
  obtain ⟨Gk, hG⟩ : ∃ Gk : Nat → Int, ∀ t, Gk t = dk[t]! := ⟨fun t => dk[t]!, fun _ => rfl⟩
  have hc : ∀ t, t < d.size → W1.cell? ⟨blk, off + t, none⟩ = some (.int .u64 (Gk t)) := fun t ht => by rw [hG]; exact (hHk t (by omega)).1
  have hf : ∀ t, t < d.size → W1.frozen? ⟨blk, off + t, none⟩ = false := fun t ht => (hHk t (by omega)).2
  have AG : Hid (∀ t, Gk t = dk[t]!) := hG
  have AW : Hid (W1 = (putRow (Value.int .u64) w blk off dk).drewN n) := hw
  clear hG hw hHk
  -- THE UPWARD SCAN
  go_loopw [10] (fun vi w1 => ∃ (i' n1 : Nat), vi = .int .i64 i' ∧ i ≤ i' ∧ i' ≤ j + 1 ∧ w1 = W1.drewN n1 ∧
      Hid (Sort.scanUp (fun x => Sort.ltInt x dk[a]!) dk j i' = Sort.scanUp (fun x => Sort.ltInt x dk[a]!) dk j i))
    (fun vi _ => j + 1 - (intOf vi).toNat)
  case atStart => exact ⟨i, 0, rfl, Nat.le_refl _, hij, rfl, rfl⟩
  case round =>
    obtain ⟨i', n1, rfl, hii, hij', hw1, hsc⟩ := hrel
    have hcw : ∀ t, t < d.size → wr.cell? ⟨blk, off + t, none⟩ = some (.int .u64 (Gk t)) := fun t ht => by rw [hw1]; exact hc t ht
    have HW1 : Hid (wr = W1.drewN n1) := hw1
    clear hw1
    by_cases hle : i' ≤ j
    · go_wp2_with fail
      go_big_quiet (first | (go_at_call 45; refine Calls.quiet_of_same (cmp_Less_int _ _ _)))
      go_wp2
      · -- it goes on: i++
        have ht : Sort.ltInt (Gk i') (Gk a) = true := by assumption
        go_roundw
        case rel => exact ⟨i' + 1, n1 + nq, by go_num, by omega, by omega, by rw [HW1.out, World.drewN_drewN], (scanUp_go (fun x => Sort.ltInt x dk[a]!) dk j i' hle (by rw [← AG.out a, ← AG.out i']; exact ht)).symm.trans hsc.out⟩
        case measure => simp [intOf]; omega
      · -- it stops: the test has failed
        have ht : Sort.ltInt (Gk i') (Gk a) = false := by assumption
        have hi2 : Hid (i' = Sort.scanUp (fun x => Sort.ltInt x dk[a]!) dk j i) := (scanUp_end (fun x => Sort.ltInt x dk[a]!) dk j i' (Or.inr (by rw [← AG.out a, ← AG.out i']; exact ht))).symm.trans hsc.out
        clear ht
        -- THE DOWNWARD SCAN
        have hw2 : wr.drewN nq = W1.drewN (n1 + nq) := by rw [HW1.out, World.drewN_drewN]
        clear hcw HW1 hsc
        go_loopw [11] (fun vj w2 => ∃ (j' n2 : Nat), vj = .int .i64 j' ∧ j' ≤ j ∧ i' ≤ j' + 1 ∧ w2 = W1.drewN n2 ∧
            Hid (Sort.scanDown (fun x => !Sort.ltInt x dk[a]!) dk i' j' = Sort.scanDown (fun x => !Sort.ltInt x dk[a]!) dk i' j))
          (fun vj _ => (intOf vj).toNat)
        case atStart => exact ⟨j, n1 + nq, rfl, Nat.le_refl _, hij', hw2, rfl⟩
        case round =>
          clear hw2
          obtain ⟨j', n2, rfl, hjj, hij2, hw2, hsd⟩ := hrel
          have hcw : ∀ t, t < d.size → wr.cell? ⟨blk, off + t, none⟩ = some (.int .u64 (Gk t)) := fun t ht => by rw [hw2]; exact hc t ht
          have HW2 : Hid (wr = W1.drewN n2) := hw2
          clear hw2
          by_cases hle2 : i' ≤ j'
          · go_wp2_with fail
            go_big_quiet (first | (go_at_call 45; refine Calls.quiet_of_same (cmp_Less_int _ _ _)))
            go_wp2
            · -- it goes on: j--
              have ht : (!Sort.ltInt (Gk j') (Gk a)) = true := by assumption
              go_roundw
              case rel => exact ⟨j' - 1, n2 + nq, by go_num, by omega, by omega, by rw [HW2.out, World.drewN_drewN], (scanDown_go (fun x => !Sort.ltInt x dk[a]!) dk i' j' hle2 (by omega) (by rw [← AG.out a, ← AG.out j']; exact ht)).symm.trans hsd.out⟩
              case measure => simp [intOf]; omega
            · -- it stops: the test has failed
              have ht : (!Sort.ltInt (Gk j') (Gk a)) = false := by assumption
              have hj2 : Hid (j' = Sort.scanDown (fun x => !Sort.ltInt x dk[a]!) dk i' j) := (scanDown_end (fun x => !Sort.ltInt x dk[a]!) dk i' j' (Or.inr (by rw [← AG.out a, ← AG.out j']; exact ht))).symm.trans hsd.out
              clear hcw hsd ht
              -- BEHIND BOTH SCANS
              have hw3 : wr.drewN nq = W1.drewN (n2 + nq) := by rw [HW2.out, World.drewN_drewN]
              generalize wr.drewN nq = W3 at hw3 ⊢
              have hc3 : ∀ t, t < d.size → W3.cell? ⟨blk, off + t, none⟩ = some (.int .u64 (Gk t)) := fun t ht => by rw [hw3]; exact hc t ht
              have hf3 : ∀ t, t < d.size → W3.frozen? ⟨blk, off + t, none⟩ = false := fun t ht => by rw [hw3]; exact hf t ht
              have HW3 : Hid (W3 = W1.drewN (n2 + nq)) := hw3
              clear hw3
              -- the exchange; i++; j--
              obtain ⟨v3, hy3⟩ := cell?_setCell_some (w := W3) (p := ⟨blk, off + i', none⟩) (x := .int .u64 (Gk j')) (q := ⟨blk, off + j', none⟩) (hc3 j' (by omega))
              have hlt3 := part_scans_lt Sort.ltInt a i j dk (by omega) hi2.out hj2.out hle2
              go_wp2
              go_region
              all_goals go_wp2
              -- THE 'for {'
              obtain ⟨R, hR⟩ : ∃ R, R = Sort.partLoop Sort.ltInt a (i' + 1) (j' - 1) (Sort.swp dk i' j') := ⟨_, rfl⟩
              have HP : Hid (Sort.partition Sort.ltInt d a b pivot = (R.1, false, Sort.swp R.2 R.1 a)) := by rw [hR]; exact part_first_go Sort.ltInt d a b pivot HI.out HJ.out HDK.out hi2.out hj2.out (by omega)
              have hw0 : ((W3.setCell ⟨blk, off + i', none⟩ (.int .u64 (Gk j'))).setCell ⟨blk, off + j', none⟩ (.int .u64 (Gk i'))).drew = (putRow (Value.int .u64) w blk off (Sort.swp dk i' j')).drewN (n + (n2 + nq) + 1) := by
                rw [HW3.out, AW.out, World.drewN_drewN, AG.out i', AG.out j']
                exact swap_worldC (Value.int .u64) w blk off dk _ i' j' (by omega) (by omega)
              have HR : Hid (R = Sort.partLoop Sort.ltInt a (i' + 1) (j' - 1) (Sort.swp dk i' j')) := hR
              clear hR hc hf hc3 hf3 hy3 HW3 AW AG hi2 hj2
              go_loopw [10, 11] (fun vi vj wr => ∃ (i j n : Nat) (dk : Array Int), vi = .int .i64 i ∧ vj = .int .i64 j ∧ a < i ∧ i ≤ j + 1 ∧ j < b ∧ dk.size = d.size ∧ wr = (putRow (Value.int .u64) w blk off dk).drewN n ∧
                  Sort.partLoop Sort.ltInt a i j dk = R)
                (fun vi vj _ => (intOf vj).toNat + 1 - (intOf vi).toNat)
              case atStart => exact ⟨i' + 1, j' - 1, _, Sort.swp dk i' j', by go_num, by go_num, by omega, by omega, by omega, by rw [size_swp]; exact hs, hw0, HR.out.symm⟩
              case round =>
                clear hw0 HR
                obtain ⟨i, j, n, dk, rfl, rfl, hai, hij, hjb, hs, hw, heq⟩ := hrel
                rename World => W1
                have AE : Hid (Sort.partLoop Sort.ltInt a i j dk = R) := heq
                clear heq
                have hHk : Holds (Value.int .u64) W1 blk off dk := by
                  rw [hw]
                  exact holds_putRow (Value.int .u64) w blk off d dk AH.out hs
                obtain ⟨Gk, hG⟩ : ∃ Gk : Nat → Int, ∀ t, Gk t = dk[t]! := ⟨fun t => dk[t]!, fun _ => rfl⟩
                have hc : ∀ t, t < d.size → W1.cell? ⟨blk, off + t, none⟩ = some (.int .u64 (Gk t)) := fun t ht => by rw [hG]; exact (hHk t (by omega)).1
                have hf : ∀ t, t < d.size → W1.frozen? ⟨blk, off + t, none⟩ = false := fun t ht => (hHk t (by omega)).2
                have AG : Hid (∀ t, Gk t = dk[t]!) := hG
                have AW : Hid (W1 = (putRow (Value.int .u64) w blk off dk).drewN n) := hw
                clear hG hw hHk
                go_wp2
                -- THE UPWARD SCAN
                go_loopw [10] (fun vi w1 => ∃ (i' n1 : Nat), vi = .int .i64 i' ∧ i ≤ i' ∧ i' ≤ j + 1 ∧ w1 = W1.drewN n1 ∧
                    Hid (Sort.scanUp (fun x => Sort.ltInt x dk[a]!) dk j i' = Sort.scanUp (fun x => Sort.ltInt x dk[a]!) dk j i))
                  (fun vi _ => j + 1 - (intOf vi).toNat)
                case atStart => exact ⟨i, 0, rfl, Nat.le_refl _, hij, rfl, rfl⟩
                case round =>
                  obtain ⟨i', n1, rfl, hii, hij', hw1, hsc⟩ := hrel
                  have hcw : ∀ t, t < d.size → wr.cell? ⟨blk, off + t, none⟩ = some (.int .u64 (Gk t)) := fun t ht => by rw [hw1]; exact hc t ht
                  have HW1 : Hid (wr = W1.drewN n1) := hw1
                  clear hw1
                  by_cases hle : i' ≤ j
                  · go_wp2_with fail
                    go_big_quiet (first | (go_at_call 45; refine Calls.quiet_of_same (cmp_Less_int _ _ _)))
                    go_wp2
                    · -- it goes on: i++
                      have ht : Sort.ltInt (Gk i') (Gk a) = true := by assumption
                      go_roundw
                      case rel => exact ⟨i' + 1, n1 + nq, by go_num, by omega, by omega, by rw [HW1.out, World.drewN_drewN], (scanUp_go (fun x => Sort.ltInt x dk[a]!) dk j i' hle (by rw [← AG.out a, ← AG.out i']; exact ht)).symm.trans hsc.out⟩
                      case measure => simp [intOf]; omega
                    · -- it stops: the test has failed
                      have ht : Sort.ltInt (Gk i') (Gk a) = false := by assumption
                      have hi2 : Hid (i' = Sort.scanUp (fun x => Sort.ltInt x dk[a]!) dk j i) := (scanUp_end (fun x => Sort.ltInt x dk[a]!) dk j i' (Or.inr (by rw [← AG.out a, ← AG.out i']; exact ht))).symm.trans hsc.out
                      clear ht
                      -- THE DOWNWARD SCAN
                      have hw2 : wr.drewN nq = W1.drewN (n1 + nq) := by rw [HW1.out, World.drewN_drewN]
                      clear hcw HW1 hsc
                      go_loopw [11] (fun vj w2 => ∃ (j' n2 : Nat), vj = .int .i64 j' ∧ j' ≤ j ∧ i' ≤ j' + 1 ∧ w2 = W1.drewN n2 ∧
                          Hid (Sort.scanDown (fun x => !Sort.ltInt x dk[a]!) dk i' j' = Sort.scanDown (fun x => !Sort.ltInt x dk[a]!) dk i' j))
                        (fun vj _ => (intOf vj).toNat)
                      case atStart => exact ⟨j, n1 + nq, rfl, Nat.le_refl _, hij', hw2, rfl⟩
                      case round =>
                        clear hw2
                        obtain ⟨j', n2, rfl, hjj, hij2, hw2, hsd⟩ := hrel
                        have hcw : ∀ t, t < d.size → wr.cell? ⟨blk, off + t, none⟩ = some (.int .u64 (Gk t)) := fun t ht => by rw [hw2]; exact hc t ht
                        have HW2 : Hid (wr = W1.drewN n2) := hw2
                        clear hw2
                        by_cases hle2 : i' ≤ j'
                        · go_wp2_with fail
                          go_big_quiet (first | (go_at_call 45; refine Calls.quiet_of_same (cmp_Less_int _ _ _)))
                          go_wp2
                          · -- it goes on: j--
                            have ht : (!Sort.ltInt (Gk j') (Gk a)) = true := by assumption
                            go_roundw
                            case rel => exact ⟨j' - 1, n2 + nq, by go_num, by omega, by omega, by rw [HW2.out, World.drewN_drewN], (scanDown_go (fun x => !Sort.ltInt x dk[a]!) dk i' j' hle2 (by omega) (by rw [← AG.out a, ← AG.out j']; exact ht)).symm.trans hsd.out⟩
                            case measure => simp [intOf]; omega
                          · -- it stops: the test has failed
                            have ht : (!Sort.ltInt (Gk j') (Gk a)) = false := by assumption
                            have hj2 : Hid (j' = Sort.scanDown (fun x => !Sort.ltInt x dk[a]!) dk i' j) := (scanDown_end (fun x => !Sort.ltInt x dk[a]!) dk i' j' (Or.inr (by rw [← AG.out a, ← AG.out j']; exact ht))).symm.trans hsd.out
                            clear hcw hsd ht
                            -- BEHIND BOTH SCANS
                            have hw3 : wr.drewN nq = W1.drewN (n2 + nq) := by rw [HW2.out, World.drewN_drewN]
                            generalize wr.drewN nq = W3 at hw3 ⊢
                            have hc3 : ∀ t, t < d.size → W3.cell? ⟨blk, off + t, none⟩ = some (.int .u64 (Gk t)) := fun t ht => by rw [hw3]; exact hc t ht
                            have hf3 : ∀ t, t < d.size → W3.frozen? ⟨blk, off + t, none⟩ = false := fun t ht => by rw [hw3]; exact hf t ht
                            have HW3 : Hid (W3 = W1.drewN (n2 + nq)) := hw3
                            clear hw3
                            -- the exchange; i++; j--
                            obtain ⟨v3, hy3⟩ := cell?_setCell_some (w := W3) (p := ⟨blk, off + i', none⟩) (x := .int .u64 (Gk j')) (q := ⟨blk, off + j', none⟩) (hc3 j' (by omega))
                            have hlt3 := part_scans_lt Sort.ltInt a i j dk (by omega) hi2.out hj2.out hle2
                            go_wp2
                            go_region
                            all_goals go_wp2
                            all_goals go_roundw
                            case rel =>
                              refine ⟨i' + 1, j' - 1, n + (n2 + nq) + 1, Sort.swp dk i' j', by go_num, by go_num, by omega, by omega, by omega, by rw [size_swp]; exact hs, ?_, ?_⟩
                              · rw [HW3.out, AW.out, World.drewN_drewN, AG.out i', AG.out j']
                                exact swap_worldC (Value.int .u64) w blk off dk _ i' j' (by omega) (by omega)
                              · exact (part_go Sort.ltInt a i j dk hi2.out hj2.out (by omega)).symm.trans AE.out
                            case measure => simp [intOf]; omega
                        · go_wp2_with fail
                          go_big_quiet (first | (go_at_call 45; refine Calls.quiet_of_same (cmp_Less_int _ _ _)))
                          -- it stops: i > j
                          have hj2 : Hid (j' = Sort.scanDown (fun x => !Sort.ltInt x dk[a]!) dk i' j) := (scanDown_end (fun x => !Sort.ltInt x dk[a]!) dk i' j' (Or.inl hle2)).symm.trans hsd.out
                          clear hcw hsd
                          -- BEHIND BOTH SCANS
                          have hw3 : wr.drewN nq = W1.drewN (n2 + nq) := by rw [HW2.out, World.drewN_drewN]
                          generalize wr.drewN nq = W3 at hw3 ⊢
                          have hc3 : ∀ t, t < d.size → W3.cell? ⟨blk, off + t, none⟩ = some (.int .u64 (Gk t)) := fun t ht => by rw [hw3]; exact hc t ht
                          have hf3 : ∀ t, t < d.size → W3.frozen? ⟨blk, off + t, none⟩ = false := fun t ht => by rw [hw3]; exact hf t ht
                          have HW3 : Hid (W3 = W1.drewN (n2 + nq)) := hw3
                          clear hw3
                          -- i > j: 'data[j], data[a] = data[a], data[j]'; return j
                          obtain ⟨v3, hy3⟩ := cell?_setCell_some (w := W3) (p := ⟨blk, off + j', none⟩) (x := .int .u64 (Gk a)) (q := ⟨blk, off + a, none⟩) (hc3 a (by omega))
                          have hlj : j' < d.size := by omega
                          go_wp2
                          go_region
                          all_goals go_wp2
                          all_goals go_ret2
                          have e : Sort.partition Sort.ltInt d a b pivot = (j', false, Sort.swp dk j' a) := by
                            have e0 := (part_break Sort.ltInt a i j dk hi2.out hj2.out (by omega)).symm.trans AE.out
                            rw [HP.out, ← e0]
                          refine ⟨?_, n + (n2 + nq) + 1, ?_⟩
                          · rw [e]; rfl
                          · rw [e, HW3.out, AW.out, World.drewN_drewN, AG.out a, AG.out j']
                            exact swap_worldC (Value.int .u64) w blk off dk _ j' a (by omega) (by omega)
                  · go_wp2_with fail
                    go_big_quiet (first | (go_at_call 45; refine Calls.quiet_of_same (cmp_Less_int _ _ _)))
                    go_wp2
                    -- it stops: i > j
                    have hi2 : Hid (i' = Sort.scanUp (fun x => Sort.ltInt x dk[a]!) dk j i) := (scanUp_end (fun x => Sort.ltInt x dk[a]!) dk j i' (Or.inl hle)).symm.trans hsc.out
                    -- THE DOWNWARD SCAN
                    have hw2 : wr.drewN nq = W1.drewN (n1 + nq) := by rw [HW1.out, World.drewN_drewN]
                    clear hcw HW1 hsc
                    go_loopw [11] (fun vj w2 => ∃ (j' n2 : Nat), vj = .int .i64 j' ∧ j' ≤ j ∧ i' ≤ j' + 1 ∧ w2 = W1.drewN n2 ∧
                        Hid (Sort.scanDown (fun x => !Sort.ltInt x dk[a]!) dk i' j' = Sort.scanDown (fun x => !Sort.ltInt x dk[a]!) dk i' j))
                      (fun vj _ => (intOf vj).toNat)
                    case atStart => exact ⟨j, n1 + nq, rfl, Nat.le_refl _, hij', hw2, rfl⟩
                    case round =>
                      clear hw2
                      obtain ⟨j', n2, rfl, hjj, hij2, hw2, hsd⟩ := hrel
                      have hcw : ∀ t, t < d.size → wr.cell? ⟨blk, off + t, none⟩ = some (.int .u64 (Gk t)) := fun t ht => by rw [hw2]; exact hc t ht
                      have HW2 : Hid (wr = W1.drewN n2) := hw2
                      clear hw2
                      by_cases hle2 : i' ≤ j'
                      · exfalso; omega      -- the upward scan has run past j, and j' ≤ j
                      · go_wp2_with fail
                        go_big_quiet (first | (go_at_call 45; refine Calls.quiet_of_same (cmp_Less_int _ _ _)))
                        -- it stops: i > j
                        have hj2 : Hid (j' = Sort.scanDown (fun x => !Sort.ltInt x dk[a]!) dk i' j) := (scanDown_end (fun x => !Sort.ltInt x dk[a]!) dk i' j' (Or.inl hle2)).symm.trans hsd.out
                        clear hcw hsd
                        -- BEHIND BOTH SCANS
                        have hw3 : wr.drewN nq = W1.drewN (n2 + nq) := by rw [HW2.out, World.drewN_drewN]
                        generalize wr.drewN nq = W3 at hw3 ⊢
                        have hc3 : ∀ t, t < d.size → W3.cell? ⟨blk, off + t, none⟩ = some (.int .u64 (Gk t)) := fun t ht => by rw [hw3]; exact hc t ht
                        have hf3 : ∀ t, t < d.size → W3.frozen? ⟨blk, off + t, none⟩ = false := fun t ht => by rw [hw3]; exact hf t ht
                        have HW3 : Hid (W3 = W1.drewN (n2 + nq)) := hw3
                        clear hw3
                        -- i > j: 'data[j], data[a] = data[a], data[j]'; return j
                        obtain ⟨v3, hy3⟩ := cell?_setCell_some (w := W3) (p := ⟨blk, off + j', none⟩) (x := .int .u64 (Gk a)) (q := ⟨blk, off + a, none⟩) (hc3 a (by omega))
                        have hlj : j' < d.size := by omega
                        go_wp2
                        go_region
                        all_goals go_wp2
                        all_goals go_ret2
                        have e : Sort.partition Sort.ltInt d a b pivot = (j', false, Sort.swp dk j' a) := by
                          have e0 := (part_break Sort.ltInt a i j dk hi2.out hj2.out (by omega)).symm.trans AE.out
                          rw [HP.out, ← e0]
                        refine ⟨?_, n + (n2 + nq) + 1, ?_⟩
                        · rw [e]; rfl
                        · rw [e, HW3.out, AW.out, World.drewN_drewN, AG.out a, AG.out j']
                          exact swap_worldC (Value.int .u64) w blk off dk _ j' a (by omega) (by omega)
          · go_wp2_with fail
            go_big_quiet (first | (go_at_call 45; refine Calls.quiet_of_same (cmp_Less_int _ _ _)))
            -- it stops: i > j
            have hj2 : Hid (j' = Sort.scanDown (fun x => !Sort.ltInt x dk[a]!) dk i' j) := (scanDown_end (fun x => !Sort.ltInt x dk[a]!) dk i' j' (Or.inl hle2)).symm.trans hsd.out
            clear hcw hsd
            -- BEHIND BOTH SCANS
            have hw3 : wr.drewN nq = W1.drewN (n2 + nq) := by rw [HW2.out, World.drewN_drewN]
            generalize wr.drewN nq = W3 at hw3 ⊢
            have hc3 : ∀ t, t < d.size → W3.cell? ⟨blk, off + t, none⟩ = some (.int .u64 (Gk t)) := fun t ht => by rw [hw3]; exact hc t ht
            have hf3 : ∀ t, t < d.size → W3.frozen? ⟨blk, off + t, none⟩ = false := fun t ht => by rw [hw3]; exact hf t ht
            have HW3 : Hid (W3 = W1.drewN (n2 + nq)) := hw3
            clear hw3
            -- i > j: 'data[j], data[a] = data[a], data[j]'; return j
            obtain ⟨v3, hy3⟩ := cell?_setCell_some (w := W3) (p := ⟨blk, off + j', none⟩) (x := .int .u64 (Gk a)) (q := ⟨blk, off + a, none⟩) (hc3 a (by omega))
            have hlj : j' < d.size := by omega
            go_wp2
            go_region
            all_goals go_wp2
            all_goals go_ret2
            have e : Sort.partition Sort.ltInt d a b pivot = (j', true, Sort.swp dk j' a) := part_first_break Sort.ltInt d a b pivot HI.out HJ.out HDK.out hi2.out hj2.out (by omega)
            refine ⟨?_, n + (n2 + nq) + 1, ?_⟩
            · rw [e]; rfl
            · rw [e, HW3.out, AW.out, World.drewN_drewN, AG.out a, AG.out j']
              exact swap_worldC (Value.int .u64) w blk off dk _ j' a (by omega) (by omega)
    · go_wp2_with fail
      go_big_quiet (first | (go_at_call 45; refine Calls.quiet_of_same (cmp_Less_int _ _ _)))
      go_wp2
      -- it stops: i > j
      have hi2 : Hid (i' = Sort.scanUp (fun x => Sort.ltInt x dk[a]!) dk j i) := (scanUp_end (fun x => Sort.ltInt x dk[a]!) dk j i' (Or.inl hle)).symm.trans hsc.out
      -- THE DOWNWARD SCAN
      have hw2 : wr.drewN nq = W1.drewN (n1 + nq) := by rw [HW1.out, World.drewN_drewN]
      clear hcw HW1 hsc
      go_loopw [11] (fun vj w2 => ∃ (j' n2 : Nat), vj = .int .i64 j' ∧ j' ≤ j ∧ i' ≤ j' + 1 ∧ w2 = W1.drewN n2 ∧
          Hid (Sort.scanDown (fun x => !Sort.ltInt x dk[a]!) dk i' j' = Sort.scanDown (fun x => !Sort.ltInt x dk[a]!) dk i' j))
        (fun vj _ => (intOf vj).toNat)
      case atStart => exact ⟨j, n1 + nq, rfl, Nat.le_refl _, hij', hw2, rfl⟩
      case round =>
        clear hw2
        obtain ⟨j', n2, rfl, hjj, hij2, hw2, hsd⟩ := hrel
        have hcw : ∀ t, t < d.size → wr.cell? ⟨blk, off + t, none⟩ = some (.int .u64 (Gk t)) := fun t ht => by rw [hw2]; exact hc t ht
        have HW2 : Hid (wr = W1.drewN n2) := hw2
        clear hw2
        by_cases hle2 : i' ≤ j'
        · exfalso; omega      -- the upward scan has run past j, and j' ≤ j
        · go_wp2_with fail
          go_big_quiet (first | (go_at_call 45; refine Calls.quiet_of_same (cmp_Less_int _ _ _)))
          -- it stops: i > j
          have hj2 : Hid (j' = Sort.scanDown (fun x => !Sort.ltInt x dk[a]!) dk i' j) := (scanDown_end (fun x => !Sort.ltInt x dk[a]!) dk i' j' (Or.inl hle2)).symm.trans hsd.out
          clear hcw hsd
          -- BEHIND BOTH SCANS
          have hw3 : wr.drewN nq = W1.drewN (n2 + nq) := by rw [HW2.out, World.drewN_drewN]
          generalize wr.drewN nq = W3 at hw3 ⊢
          have hc3 : ∀ t, t < d.size → W3.cell? ⟨blk, off + t, none⟩ = some (.int .u64 (Gk t)) := fun t ht => by rw [hw3]; exact hc t ht
          have hf3 : ∀ t, t < d.size → W3.frozen? ⟨blk, off + t, none⟩ = false := fun t ht => by rw [hw3]; exact hf t ht
          have HW3 : Hid (W3 = W1.drewN (n2 + nq)) := hw3
          clear hw3
          -- i > j: 'data[j], data[a] = data[a], data[j]'; return j
          obtain ⟨v3, hy3⟩ := cell?_setCell_some (w := W3) (p := ⟨blk, off + j', none⟩) (x := .int .u64 (Gk a)) (q := ⟨blk, off + a, none⟩) (hc3 a (by omega))
          have hlj : j' < d.size := by omega
          go_wp2
          go_region
          all_goals go_wp2
          all_goals go_ret2
          have e : Sort.partition Sort.ltInt d a b pivot = (j', true, Sort.swp dk j' a) := part_first_break Sort.ltInt d a b pivot HI.out HJ.out HDK.out hi2.out hj2.out (by omega)
          refine ⟨?_, n + (n2 + nq) + 1, ?_⟩
          · rw [e]; rfl
          · rw [e, HW3.out, AW.out, World.drewN_drewN, AG.out a, AG.out j']
            exact swap_worldC (Value.int .u64) w blk off dk _ j' a (by omega) (by omega)

theorem partitionOrdered_int (blk off cap a b pivot : Nat) (d : Array Int) (w : World) (hH : Holds (Value.int .u64) w blk off d) (hap : a ≤ pivot) (hpb : pivot < b) (hb : b ≤ d.size) (hsz : d.size < 4611686018427387904) :
    Calls Try.prog 59 #[.slice (some ⟨blk, off, none⟩) d.size cap, .int .i64 a, .int .i64 b, .int .i64 pivot] w fun e w' =>
      e = .returned (.tuple #[.int .i64 (Sort.partition Sort.ltInt d a b pivot).1, .bool (Sort.partition Sort.ltInt d a b pivot).2.1]) ∧ ∃ n, w' = putRow (Value.int .u64) (Sort.ahead w n) blk off (Sort.partition Sort.ltInt d a b pivot).2.2 :=
  (partition_int blk off cap a b pivot d w hH hap hpb hb hsz).mono fun _ _ ⟨he, n, hw⟩ => ⟨he, n, hw⟩
end Go.Proofs.Ytjfkenjmjoncbaa.Srt
namespace Go.Proofs.Ytjfkenjmjoncbaa.Srt
open Go Go.Proofs Go.RowKit Go.Sort
set_option linter.unusedVariables false
set_option linter.unusedSimpArgs false
theorem holds_aside {w : World} {blk off sb so n t : Nat} {d : Array Int} (h : Holds (Value.int .u64) w blk off d) (hne : sb ≠ blk) : Holds (Value.int .u64) (putRow (Value.int .i64) (Sort.ahead w n) sb so (one t)) blk off d := fun j hj =>
  ⟨by rw [cell?_putRow_other _ _ _ _ _ _ (Or.inl (Ne.symm hne))]; exact (h j hj).1, by rw [frozen?_putRow]; exact (h j hj).2⟩

set_option maxHeartbeats 1000000 in
theorem order2_int (d : Array Int) (len : Nat) (hlen : d.size = len) (blk off cap a b sb so s : Nat) (w : World) (hH : Holds (Value.int .u64) w blk off d) (ha : a < d.size) (hb : b < d.size)
    (hS : Holds (Value.int .i64) w sb so (one s)) (hs : s < 2 ^ 62) :
    Calls Try.prog 67 #[.slice (some ⟨blk, off, none⟩) len cap, .int .i64 a, .int .i64 b, .pointer (some ⟨sb, so, none⟩)] w fun e w' =>
      e = .returned (.tuple #[.int .i64 (order2 ltInt d a b s).1, .int .i64 (order2 ltInt d a b s).2.1]) ∧ ∃ n, w' = putRow (Value.int .i64) (Sort.ahead w n) sb so (one (order2 ltInt d a b s).2.2) := by
  subst hlen
  replace hs : s < 4611686018427387904 := by omega
  have ca := (hH a ha).1
  have cb := (hH b hb).1
  obtain ⟨cs, fs⟩ := one_cell hS
  have ea : d[a]! = d[a] := getElem!_pos d a ha
  have eb : d[b]! = d[b] := getElem!_pos d b hb
  go_enter Try.func67, Try.ntmps67
  go_wp2
  go_region_with (go_at_call 45; refine (cmp_Less_int _ _ _).mono ?_; rintro e w' ⟨rfl, rfl⟩)
  all_goals (try go_wp2)
  all_goals first
    | (have hlt : ltInt d[b] d[a] = true := by assumption
       have e2 : order2 ltInt d a b s = (b, a, s + 1) := by simp [order2, ea, eb, hlt]
       go_ret2
       rw [e2]
       refine ⟨rfl, 1, ?_⟩
       rw [putRow_ahead, ← one_set hS (s + 1)]
       simp [drew_eq_ahead])
    | (have hlt : ltInt d[b] d[a] = false := by assumption
       have e2 : order2 ltInt d a b s = (a, b, s) := by simp [order2, ea, eb, hlt]
       go_ret2
       rw [e2]
       refine ⟨rfl, 1, ?_⟩
       rw [putRow_ahead, putRow_self _ _ _ _ _ hS]
       rfl)

set_option maxHeartbeats 1000000 in
set_option maxRecDepth 100000 in
theorem median_int (d : Array Int) (len : Nat) (hlen : d.size = len) (blk off cap a b c sb so s : Nat) (w : World) (hH : Holds (Value.int .u64) w blk off d) (ha : a < d.size) (hb : b < d.size) (hc : c < d.size) (hne : sb ≠ blk)
    (hS : Holds (Value.int .i64) w sb so (one s)) (hs : s + 3 < 2 ^ 62) :
    Calls Try.prog 66 #[.slice (some ⟨blk, off, none⟩) len cap, .int .i64 a, .int .i64 b, .int .i64 c, .pointer (some ⟨sb, so, none⟩)] w fun e w' =>
      e = .returned (.int .i64 (median ltInt d a b c s).1) ∧ ∃ n, w' = putRow (Value.int .i64) (Sort.ahead w n) sb so (one (median ltInt d a b c s).2) := by
  subst hlen
  have l1 := order2_lt d s ha hb
  have s1 := order2_swaps d a b s
  have l2 := order2_lt d (order2 ltInt d a b s).2.2 l1.2 hc
  have s2 := order2_swaps d (order2 ltInt d a b s).2.1 c (order2 ltInt d a b s).2.2
  go_enter Try.func66, Try.ntmps66
  -- WHICH OF THE THREE CALLS IT IS, IS TOLD BY AN ARGUMENT THAT THE OTHERS LACK ('go_at_call_of'): a contract that does not fit is not harmless: 'refine' lays both calls open
  go_wp2_with (go_at_call_of 67 (Value.int .i64 (b : Int)); refine (order2_int d _ rfl blk off cap a b sb so s w hH ha hb hS (by omega)).mono ?_; rintro e w' ⟨rfl, n1, rfl⟩)
  go_wp2_with (go_at_call_of 67 (Value.int .i64 (c : Int)); refine (order2_int d _ rfl blk off cap (order2 ltInt d a b s).2.1 c sb so (order2 ltInt d a b s).2.2 _ (holds_aside hH hne) l1.2 hc (holds_one hS) (by omega)).mono ?_; rintro e w' ⟨rfl, n2, rfl⟩)
  go_wp2_with (go_at_call_of 67 (Value.int .i64 ((order2 ltInt d a b s).1 : Int)); refine (order2_int d _ rfl blk off cap (order2 ltInt d a b s).1 (order2 ltInt d (order2 ltInt d a b s).2.1 c (order2 ltInt d a b s).2.2).1 sb so (order2 ltInt d (order2 ltInt d a b s).2.1 c (order2 ltInt d a b s).2.2).2.2 _
    (holds_aside (holds_aside hH hne) hne) l1.1 l2.1 (holds_one (holds_one hS)) (by omega)).mono ?_; rintro e w' ⟨rfl, n3, rfl⟩)
  go_ret
  refine ⟨rfl, n1 + (n2 + n3), ?_⟩
  rw [one_one, one_one]
  rfl


end Go.Proofs.Ytjfkenjmjoncbaa.Srt
namespace Go.Proofs.Ytjfkenjmjoncbaa.Srt
open Go Go.Proofs Go.RowKit Go.Sort
set_option linter.unusedVariables false
set_option linter.unusedSimpArgs false
set_option maxHeartbeats 1000000 in
set_option maxRecDepth 100000 in
theorem medianAdjacent_int (d : Array Int) (len : Nat) (hlen : d.size = len) (blk off cap a sb so s : Nat) (w : World) (hH : Holds (Value.int .u64) w blk off d) (ha0 : 1 ≤ a) (ha : a + 1 < d.size) (hsz : d.size < 2 ^ 62) (hne : sb ≠ blk)
    (hS : Holds (Value.int .i64) w sb so (one s)) (hs : s + 3 < 2 ^ 62) :
    Calls Try.prog 65 #[.slice (some ⟨blk, off, none⟩) len cap, .int .i64 a, .pointer (some ⟨sb, so, none⟩)] w fun e w' =>
      e = .returned (.int .i64 (medianAdjacent ltInt d a s).1) ∧ ∃ n, w' = putRow (Value.int .i64) (Sort.ahead w n) sb so (one (medianAdjacent ltInt d a s).2) := by
  subst hlen
  replace hsz : d.size < 4611686018427387904 := by omega
  go_enter Try.func65, Try.ntmps65
  go_wp2_with (go_at_call 66; rw [show ((a : Int) - 1) = ((a - 1 : Nat) : Int) by omega, show ((a : Int) + 1) = ((a + 1 : Nat) : Int) by omega]; refine (median_int d _ rfl blk off cap (a - 1) a (a + 1) sb so s w hH (by omega) (by omega) ha hne hS hs).mono ?_; rintro e w' ⟨rfl, n1, rfl⟩)
  go_ret
  exact ⟨rfl, n1, rfl⟩

end Go.Proofs.Ytjfkenjmjoncbaa.Srt
namespace Go.Proofs.Ytjfkenjmjoncbaa.Srt
open Go Go.Proofs Go.RowKit Go.Sort
set_option linter.unusedVariables false
set_option linter.unusedSimpArgs false
theorem pivot_world_int (blk off cap : Nat) (d : Array Int) (w : World) (hH : Holds (Value.int .u64) w blk off d) (hblk : blk < w.heap.size) (hsz : d.size < 4611686018427387904) :
    ∃ Wc : Nat → Nat → World,
      w.alloc (.cells #[.int .i64 0] 3) = Wc 0 0 ∧
      (∀ N S : Nat, (Wc N S).cell? ⟨w.heap.size, 0, none⟩ = some (.int .i64 (S : Int))) ∧
      (∀ N S : Nat, ∃ os, Wc N S = grow (Sort.ahead w N) os) ∧
      (∀ x s N : Nat, 1 ≤ x → x + 1 < d.size → s + 3 < 4611686018427387904 → Calls Try.prog 65 #[.slice (some ⟨blk, off, none⟩) d.size cap, .int .i64 (x : Int), .pointer (some ⟨w.heap.size, 0, none⟩)] (Wc N s) fun e w' =>
        e = .returned (.int .i64 ((medianAdjacent ltInt d x s).1 : Int)) ∧ ∃ N', w' = Wc N' (medianAdjacent ltInt d x s).2) ∧
      (∀ x y z s N : Nat, x < d.size → y < d.size → z < d.size → s + 3 < 4611686018427387904 → Calls Try.prog 66 #[.slice (some ⟨blk, off, none⟩) d.size cap, .int .i64 (x : Int), .int .i64 (y : Int), .int .i64 (z : Int), .pointer (some ⟨w.heap.size, 0, none⟩)] (Wc N s) fun e w' =>
        e = .returned (.int .i64 ((median ltInt d x y z s).1 : Int)) ∧ ∃ N', w' = Wc N' (median ltInt d x y z s).2) := by
  have hne : w.heap.size ≠ blk := by omega
  have hH0 : Holds (Value.int .u64) (w.alloc (.cells #[.int .i64 0] 3)) blk off d := by rw [alloc_eq_grow]; exact holds_grow _ _ _ _ _ _ hblk hH
  have hS0 : Holds (Value.int .i64) (w.alloc (.cells #[.int .i64 0] 3)) w.heap.size 0 (one 0) := fun j hj => by
    obtain rfl : j = 0 := by simpa using hj
    simp
  refine ⟨fun N S => putRow (Value.int .i64) (Sort.ahead (w.alloc (.cells #[.int .i64 0] 3)) N) w.heap.size 0 (one S), (putRow_self _ _ _ _ _ hS0).symm, fun N S => (one_cell (holds_one (n := N) (t := S) hS0)).1, fun N S => counter_grow w N S, ?_, ?_⟩
  · intro x s N h1 h2 hs
    refine (medianAdjacent_int d _ rfl blk off cap x w.heap.size 0 s _ (holds_aside hH0 hne) h1 h2 (by omega) hne (holds_one hS0) (by omega)).mono ?_
    rintro e w' ⟨he, n, hw⟩
    exact ⟨he, N + n, by rw [hw, one_one]⟩
  · intro x y z s N h1 h2 h3 hs
    refine (median_int d _ rfl blk off cap x y z w.heap.size 0 s _ (holds_aside hH0 hne) h1 h2 h3 hne (holds_one hS0) (by omega)).mono ?_
    rintro e w' ⟨he, n, hw⟩
    exact ⟨he, N + n, by rw [hw, one_one]⟩

set_option maxRecDepth 100000 in
theorem choosePivot_int (blk off cap a b : Nat) (d : Array Int) (w : World) (hH : Holds (Value.int .u64) w blk off d) (hblk : blk < w.heap.size) (hab : a < b) (hb : b ≤ d.size) (hsz : d.size < 4611686018427387904) :
    Calls Try.prog 55 #[.slice (some ⟨blk, off, none⟩) d.size cap, .int .i64 a, .int .i64 b] w fun e w' =>
      e = .returned (.tuple #[.int .i64 (choosePivot ltInt d a b).1, .int .i64 (hintCode (choosePivot ltInt d a b).2)]) ∧ ∃ n os, w' = grow (Sort.ahead w n) os := by
  obtain ⟨Wc, hW0, cS, hG, MA, MD⟩ := pivot_world_int blk off cap d w hH hblk hsz
  clear hH
  rw [choosePivot_eq]
  -- the three places under names of their own
  obtain ⟨I, hI⟩ : ∃ I : Nat, I = a + (b - a) / 4 * 1 := ⟨_, rfl⟩
  obtain ⟨J, hJ⟩ : ∃ J : Nat, J = a + (b - a) / 4 * 2 := ⟨_, rfl⟩
  obtain ⟨K, hK⟩ : ∃ K : Nat, K = a + (b - a) / 4 * 3 := ⟨_, rfl⟩
  have eI : ((a : Int) + ((b : Int) - (a : Int)) / 4) = (I : Int) := by omega
  have eJ : ((a : Int) + ((b : Int) - (a : Int)) / 4 * 2) = (J : Int) := by omega
  have eK : ((a : Int) + ((b : Int) - (a : Int)) / 4 * 3) = (K : Int) := by omega
  by_cases h8 : b - a ≥ 8
  · by_cases h50 : b - a ≥ 50
    · -- THE NINTHER
      obtain ⟨i1, s1, h1⟩ : ∃ i1 s1, medianAdjacent ltInt d I 0 = (i1, s1) := ⟨_, _, rfl⟩
      obtain ⟨j1, s2, h2⟩ : ∃ j1 s2, medianAdjacent ltInt d J s1 = (j1, s2) := ⟨_, _, rfl⟩
      obtain ⟨k1, s3, h3⟩ : ∃ k1 s3, medianAdjacent ltInt d K s2 = (k1, s3) := ⟨_, _, rfl⟩
      obtain ⟨p, s, h4⟩ : ∃ p s, median ltInt d i1 j1 k1 s3 = (p, s) := ⟨_, _, rfl⟩
      have hraw : rawPivot ltInt d a b = (p, s) := by simp only [rawPivot, if_pos h8, if_pos h50, ← hI, ← hJ, ← hK, h1, h2, h3, h4]
      have m1 := medianAdjacent_mem ltInt d I 0; rw [h1] at m1
      have m2 := medianAdjacent_mem ltInt d J s1; rw [h2] at m2
      have m3 := medianAdjacent_mem ltInt d K s2; rw [h3] at m3
      have n1 := medianAdjacent_count ltInt d I 0; rw [h1] at n1
      have n2 := medianAdjacent_count ltInt d J s1; rw [h2] at n2
      have n3 := medianAdjacent_count ltInt d K s2; rw [h3] at n3
      simp only [] at m1 m2 m3 n1 n2 n3
      have c1 : Calls Try.prog 65 #[.slice (some ⟨blk, off, none⟩) d.size cap, .int .i64 (I : Int), .pointer (some ⟨w.heap.size, 0, none⟩)] (Wc 0 0) fun e w' => e = .returned (.int .i64 (i1 : Int)) ∧ ∃ N', w' = Wc N' s1 := by
        have h := MA I 0 0 (by omega) (by omega) (by omega); rw [h1] at h; exact h
      have c2 : ∀ N, Calls Try.prog 65 #[.slice (some ⟨blk, off, none⟩) d.size cap, .int .i64 (J : Int), .pointer (some ⟨w.heap.size, 0, none⟩)] (Wc N s1) fun e w' => e = .returned (.int .i64 (j1 : Int)) ∧ ∃ N', w' = Wc N' s2 := fun N => by
        have h := MA J s1 N (by omega) (by omega) (by omega); rw [h2] at h; exact h
      have c3 : ∀ N, Calls Try.prog 65 #[.slice (some ⟨blk, off, none⟩) d.size cap, .int .i64 (K : Int), .pointer (some ⟨w.heap.size, 0, none⟩)] (Wc N s2) fun e w' => e = .returned (.int .i64 (k1 : Int)) ∧ ∃ N', w' = Wc N' s3 := fun N => by
        have h := MA K s2 N (by omega) (by omega) (by omega); rw [h3] at h; exact h
      have c4 : ∀ N, Calls Try.prog 66 #[.slice (some ⟨blk, off, none⟩) d.size cap, .int .i64 (i1 : Int), .int .i64 (j1 : Int), .int .i64 (k1 : Int), .pointer (some ⟨w.heap.size, 0, none⟩)] (Wc N s3) fun e w' => e = .returned (.int .i64 (p : Int)) ∧ ∃ N', w' = Wc N' s := fun N => by
        have h := MD i1 j1 k1 s3 N (by omega) (by omega) (by omega) (by omega); rw [h4] at h; exact h
      -- the pivot, the count, the hint's number under names of their own
      rw [hraw]
      obtain ⟨Hc, hHc⟩ : ∃ Hc : Int, Hc = hintCode (hintOf s) := ⟨_, rfl⟩
      have hh0 : s = 0 → Hc = 1 := fun h => by rw [hHc, h]; rfl
      have hh12 : s = 12 → Hc = 2 := fun h => by rw [hHc, h]; rfl
      have hhx : s ≠ 0 → s ≠ 12 → Hc = 0 := fun h1 h2 => by rw [hHc]; unfold hintOf; rw [if_neg h1, if_neg h2]; rfl
      show Calls Try.prog 55 _ w fun e w' => e = .returned (.tuple #[.int .i64 (p : Int), .int .i64 (hintCode (hintOf s))]) ∧ ∃ n os, w' = grow (Sort.ahead w n) os
      rw [← hHc]
      clear hHc hraw
      clear h1 h2 h3 h4 MA MD hI hJ hK m1 m2 m3
      go_enter Try.func55, Try.ntmps55
      go_wp2_with (first
        | (go_at_call_has 65 (Value.int .i64 (I : Int)); refine c1.mono ?_; rintro e w' ⟨rfl, N1, rfl⟩)
        | (go_at_call_has 65 (Value.int .i64 (J : Int)); refine (c2 _).mono ?_; rintro e w' ⟨rfl, N2, rfl⟩)
        | (go_at_call_has 65 (Value.int .i64 (K : Int)); refine (c3 _).mono ?_; rintro e w' ⟨rfl, N3, rfl⟩)
        | (go_at_call 66; refine (c4 _).mono ?_; rintro e w' ⟨rfl, N4, rfl⟩))
      -- 'switch swaps'
      all_goals
        go_ret2
        refine ⟨?_, _, hG _ _⟩
        first
          | (have e0 : (s : Int) = 0 := of_beq_int (by assumption)
             rw [hh0 (by omega)]; rfl)
          | (have e1 : (s : Int) = 12 := of_beq_int (by assumption)
             rw [hh12 (by omega)]; rfl)
          | (have e0 : (s : Int) ≠ 0 := of_bne_int (by assumption)
             have e1 : (s : Int) ≠ 12 := of_bne_int (by assumption)
             rw [hhx (by omega) (by omega)]; rfl)
          | (rw [hh0 (by omega)]; rfl)
    · -- THE MEDIAN OF THREE
      obtain ⟨p, s, h4⟩ : ∃ p s, median ltInt d I J K 0 = (p, s) := ⟨_, _, rfl⟩
      have hraw : rawPivot ltInt d a b = (p, s) := by simp only [rawPivot, if_pos h8, if_neg h50, ← hI, ← hJ, ← hK, h4]
      have c4 : Calls Try.prog 66 #[.slice (some ⟨blk, off, none⟩) d.size cap, .int .i64 (I : Int), .int .i64 (J : Int), .int .i64 (K : Int), .pointer (some ⟨w.heap.size, 0, none⟩)] (Wc 0 0) fun e w' => e = .returned (.int .i64 (p : Int)) ∧ ∃ N', w' = Wc N' s := by
        have h := MD I J K 0 0 (by omega) (by omega) (by omega) (by omega); rw [h4] at h; exact h
      -- the pivot, the count, the hint's number under names of their own
      rw [hraw]
      obtain ⟨Hc, hHc⟩ : ∃ Hc : Int, Hc = hintCode (hintOf s) := ⟨_, rfl⟩
      have hh0 : s = 0 → Hc = 1 := fun h => by rw [hHc, h]; rfl
      have hh12 : s = 12 → Hc = 2 := fun h => by rw [hHc, h]; rfl
      have hhx : s ≠ 0 → s ≠ 12 → Hc = 0 := fun h1 h2 => by rw [hHc]; unfold hintOf; rw [if_neg h1, if_neg h2]; rfl
      show Calls Try.prog 55 _ w fun e w' => e = .returned (.tuple #[.int .i64 (p : Int), .int .i64 (hintCode (hintOf s))]) ∧ ∃ n os, w' = grow (Sort.ahead w n) os
      rw [← hHc]
      clear hHc hraw
      clear h4 MA MD hI hJ hK
      go_enter Try.func55, Try.ntmps55
      go_wp2_with (first | (go_at_call 66; refine c4.mono ?_; rintro e w' ⟨rfl, N4, rfl⟩))
      -- 'switch swaps'
      all_goals
        go_ret2
        refine ⟨?_, _, hG _ _⟩
        first
          | (have e0 : (s : Int) = 0 := of_beq_int (by assumption)
             rw [hh0 (by omega)]; rfl)
          | (have e1 : (s : Int) = 12 := of_beq_int (by assumption)
             rw [hh12 (by omega)]; rfl)
          | (have e0 : (s : Int) ≠ 0 := of_bne_int (by assumption)
             have e1 : (s : Int) ≠ 12 := of_bne_int (by assumption)
             rw [hhx (by omega) (by omega)]; rfl)
          | (rw [hh0 (by omega)]; rfl)
  · -- FEWER THAN EIGHT: the middle; nothing is counted
    obtain ⟨p, hp⟩ : ∃ p : Nat, p = J := ⟨_, rfl⟩
    obtain ⟨s, hs⟩ : ∃ s : Nat, s = 0 := ⟨_, rfl⟩
    have hraw : rawPivot ltInt d a b = (p, s) := by simp only [rawPivot, if_neg h8, ← hJ, hp, hs]
    -- the pivot, the count, the hint's number under names of their own
    rw [hraw]
    obtain ⟨Hc, hHc⟩ : ∃ Hc : Int, Hc = hintCode (hintOf s) := ⟨_, rfl⟩
    have hh0 : s = 0 → Hc = 1 := fun h => by rw [hHc, h]; rfl
    have hh12 : s = 12 → Hc = 2 := fun h => by rw [hHc, h]; rfl
    have hhx : s ≠ 0 → s ≠ 12 → Hc = 0 := fun h1 h2 => by rw [hHc]; unfold hintOf; rw [if_neg h1, if_neg h2]; rfl
    show Calls Try.prog 55 _ w fun e w' => e = .returned (.tuple #[.int .i64 (p : Int), .int .i64 (hintCode (hintOf s))]) ∧ ∃ n os, w' = grow (Sort.ahead w n) os
    rw [← hHc]
    clear hHc hraw
    subst hp
    clear MA MD hI hJ hK
    have hW0' : w.alloc (.cells #[.int .i64 0] 3) = Wc 0 s := by rw [hs]; exact hW0
    clear hW0
    go_enter Try.func55, Try.ntmps55
    go_wp2
    -- 'switch swaps'
    all_goals
      go_ret2
      refine ⟨?_, _, hG _ _⟩
      first
        | (have e0 : (s : Int) = 0 := of_beq_int (by assumption)
           rw [hh0 (by omega)]; rfl)
        | (have e1 : (s : Int) = 12 := of_beq_int (by assumption)
           rw [hh12 (by omega)]; rfl)
        | (have e0 : (s : Int) ≠ 0 := of_bne_int (by assumption)
           have e1 : (s : Int) ≠ 12 := of_bne_int (by assumption)
           rw [hhx (by omega) (by omega)]; rfl)
        | (rw [hh0 (by omega)]; rfl)

end Go.Proofs.Ytjfkenjmjoncbaa.Srt
namespace Go.Proofs.Ytjfkenjmjoncbaa.Srt
open Go Go.Proofs Go.RowKit Go.Sort
set_option linter.unusedVariables false
set_option linter.unusedSimpArgs false
structure Callees13 : Prop where
  ins : ∀ (blk off cap a b : Nat) (d : Array Int) (w : World), Holds encU w blk off d → a ≤ b → b ≤ d.size → d.size < 4611686018427387904 →
    Calls Try.prog 52 #[.slice (some ⟨blk, off, none⟩) d.size cap, .int .i64 a, .int .i64 b] w fun e w' => e = .returned (.tuple #[]) ∧ ∃ n, w' = putRow encU (Sort.ahead w n) blk off (insertionSort ltInt d a b)
  brk : ∀ (blk off cap a b : Nat) (d : Array Int) (w : World), Holds encU w blk off d → blk < w.heap.size → a ≤ b → b ≤ d.size → d.size < 4611686018427387904 →
    Calls Try.prog 54 #[.slice (some ⟨blk, off, none⟩) d.size cap, .int .i64 a, .int .i64 b] w fun e w' => e = .returned (.tuple #[]) ∧ ∃ n os, w' = grow (putRow encU (Sort.ahead w n) blk off (breakPatterns d a b)) os
  piv : ∀ (blk off cap a b : Nat) (d : Array Int) (w : World), Holds encU w blk off d → blk < w.heap.size → a < b → b ≤ d.size → d.size < 4611686018427387904 →
    Calls Try.prog 55 #[.slice (some ⟨blk, off, none⟩) d.size cap, .int .i64 a, .int .i64 b] w fun e w' => e = .returned (.tuple #[.int .i64 (choosePivot ltInt d a b).1, .int .i64 (hintCode (choosePivot ltInt d a b).2)]) ∧ ∃ n os, w' = grow (Sort.ahead w n) os
  par : ∀ (blk off cap a b : Nat) (d : Array Int) (w : World), Holds encU w blk off d → a < b → b ≤ d.size → d.size < 4611686018427387904 →
    Calls Try.prog 57 #[.slice (some ⟨blk, off, none⟩) d.size cap, .int .i64 a, .int .i64 b] w fun e w' => e = .returned (.bool (partialInsertionSort ltInt d a b).2) ∧ ∃ n, w' = putRow encU (Sort.ahead w n) blk off (partialInsertionSort ltInt d a b).1
  peq : ∀ (blk off cap a b pivot : Nat) (d : Array Int) (w : World), Holds encU w blk off d → a ≤ pivot → pivot < b → b ≤ d.size → d.size < 4611686018427387904 →
    Calls Try.prog 58 #[.slice (some ⟨blk, off, none⟩) d.size cap, .int .i64 a, .int .i64 b, .int .i64 pivot] w fun e w' => e = .returned (.int .i64 (partitionEqual ltInt d a b pivot).1) ∧ ∃ n, w' = putRow encU (Sort.ahead w n) blk off (partitionEqual ltInt d a b pivot).2
  prt : ∀ (blk off cap a b pivot : Nat) (d : Array Int) (w : World), Holds encU w blk off d → a ≤ pivot → pivot < b → b ≤ d.size → d.size < 4611686018427387904 →
    Calls Try.prog 59 #[.slice (some ⟨blk, off, none⟩) d.size cap, .int .i64 a, .int .i64 b, .int .i64 pivot] w fun e w' => e = .returned (.tuple #[.int .i64 (partition ltInt d a b pivot).1, .bool (partition ltInt d a b pivot).2.1]) ∧ ∃ n, w' = putRow encU (Sort.ahead w n) blk off (partition ltInt d a b pivot).2.2

structure Plain13 : Prop where
  swo : SWO ltInt
  ins : insertionSort_stmt ltInt
  par : partialInsertionSort_stmt ltInt
  prt : partition_stmt ltInt
  peq : partitionEqual_stmt ltInt
  pdq : pdq_stmt ltInt

set_option maxHeartbeats 6400000 in
set_option maxRecDepth 1000000 in
theorem pdqsort_int (C : Callees13) (S : Plain13) : ∀ (N blk off cap a b limit : Nat) (d : Array Int) (w : World), b - a < N → Holds encU w blk off d → blk < w.heap.size → a ≤ b → b ≤ d.size → d.size < 4611686018427387904 → limit < 4611686018427387904 → Below ltInt a b d →
    Calls Try.prog 49 #[.slice (some ⟨blk, off, none⟩) d.size cap, .int .i64 a, .int .i64 b, .int .i64 limit] w fun e w' => e = .returned (.tuple #[]) ∧ At encU w blk off (pdq ltInt d a b limit true true) w' := by
  intro N
  induction N with
  | zero => intro _ _ _ _ _ _ _ _ h; exact absurd h (Nat.not_lt_zero _)
  | succ N ih =>
    intro blk off cap a b limit d w hN hH hblk hab hb hsz hlimit hBel0
    go_enter Try.func49, Try.ntmps49
    go_wp2
    go_loopg [1, 2, 3, 8, 9] (b - a) (fun k s1 s2 s3 s8 s9 wr => ∃ (a' b' lim : Nat) (wb wp : Bool) (dk : Array Int), s1 = .int .i64 a' ∧ s2 = .int .i64 b' ∧ s3 = .int .i64 lim ∧ s8 = .bool wb ∧ s9 = .bool wp ∧
      a' ≤ b' ∧ b' ≤ d.size ∧ b' - a' ≤ k ∧ k ≤ b - a ∧ lim ≤ limit ∧ dk.size = d.size ∧ Below ltInt a' b' dk ∧ At encU w blk off dk wr ∧ pdq ltInt dk a' b' lim wb wp = pdq ltInt d a b limit true true)
    case atStart => exact ⟨a, b, limit, true, true, d, rfl, rfl, rfl, rfl, rfl, hab, hb, Nat.le_refl _, Nat.le_refl _, Nat.le_refl _, rfl, hBel0, At.refl hH, rfl⟩
    case round =>
      obtain ⟨a', b', lim, wb, wp, dk, rfl, rfl, rfl, rfl, rfl, hab', hb', hk, hkN, hlim, hds, hBel, hAt, heq⟩ := hrel
      obtain ⟨hHk, hblk'⟩ := hAt.holds hH hds hblk
      have A : Aside (pdq ltInt dk a' b' lim wb wp = pdq ltInt d a b limit true true) := heq
      clear heq
      by_cases h12 : b' - a' ≤ 12
      · -- 'if length <= maxInsertion'
        have h12z : (b' : Int) - (a' : Int) ≤ 12 := by omega
        have hc := C.ins blk off cap a' b' dk wr hHk hab' (by omega) (by omega)
        rw [hds] at hc
        go_wp2_with (go_at_call 52; refine hc.mono ?_; rintro e w1 ⟨rfl, hw1⟩)
        (try simp only [Exit.inBlock, Exit.then]); refine bodyPost_ret (results_none rfl _ _ _) rfl ?_
        refine ⟨rfl, ?_⟩
        rw [← A.out, pdq_small h12]
        exact hAt.step hblk (S.ins S.swo dk a' b' hab' (by omega)).1.1 hw1
      · have h12z : ¬ ((b' : Int) - (a' : Int) ≤ 12) := by omega
        by_cases hl0 : lim = 0
        · -- 'if limit == 0'
          subst hl0
          have hc := heapSort_int blk off d.size cap dk hds a' b' wr hHk hab' (by omega) (by omega)
          go_wp2_with (go_at_call 53; refine hc.mono ?_; rintro e w1 ⟨rfl, hw1⟩)
          (try simp only [Exit.inBlock, Exit.then]); refine bodyPost_ret (results_none rfl _ _ _) rfl ?_
          refine ⟨rfl, ?_⟩
          rw [← A.out, pdq_heap h12 rfl]
          exact hAt.step hblk (heapSort_holds S.swo dk a' b' hab' (by omega)).1.1 hw1
        · have hl0z : ¬ ((lim : Int) = 0) := by omega
          -- THE ROUND's VALUES: sizes, ranges, 'Below', stage by stage
          obtain ⟨s1, B1, hc1, s2, B2, hpv, s3, B3⟩ := rd_facts (limit := lim) (wb := wb) (wp := wp) S.swo S.par reverseRange_holds (show a' < b' by omega) (show b' ≤ dk.size by omega) hBel
          -- ████ 'if !wasBalanced { breakPatterns; limit-- }': THE WAYS MEET
          go_upto_if 35 with fail
          go_cut [3] from 19 (fun s3 wc => s3 = .int .i64 (rd ltInt dk a' b' lim wb wp).lim ∧ At encU w blk off (rd ltInt dk a' b' lim wb wp).d1 wc)
          case first =>
            cases wb
            · have hc := C.brk blk off cap a' b' dk wr hHk hblk' hab' (by omega) (by omega)
              rw [hds] at hc
              go_wp2_with (go_at_call 54; refine hc.mono ?_; rintro e w1 ⟨rfl, hw1⟩)
              go_meet
              case rel =>
                refine ⟨?_, hAt.stepG hblk s1 hw1⟩
                show Value.int .i64 ((lim : Int) - 1) = Value.int .i64 ((lim - 1 : Nat) : Int)
                congr 1
                omega
            · go_wp2_with fail
              go_meet
              case rel => exact ⟨rfl, hAt⟩
          case rest =>
            obtain ⟨rfl, hAt1⟩ := hcut
            obtain ⟨hH1, hblk1⟩ := hAt1.holds hH (s1.trans hds) hblk
            have hc17 : Calls Try.prog 55 #[.slice (some ⟨blk, off, none⟩) d.size cap, .int .i64 a', .int .i64 b'] wc fun e w' => e = .returned (.tuple #[.int .i64 (rd ltInt dk a' b' lim wb wp).c.1, .int .i64 (hintCode (rd ltInt dk a' b' lim wb wp).c.2)]) ∧ ∃ n os, w' = grow (Sort.ahead wc n) os := by
              have := C.piv blk off cap a' b' (rd ltInt dk a' b' lim wb wp).d1 wc hH1 hblk1 (by omega) (by omega) (by omega)
              rw [s1, hds] at this
              exact this
            go_upto_if 50 with (go_at_call 55; refine hc17.mono ?_; rintro e w2 ⟨rfl, hw2⟩)
            have hAt2 : At encU w blk off (rd ltInt dk a' b' lim wb wp).d1 w2 := hAt1.same hH (s1.trans hds) hblk hw2
            obtain ⟨hH2, hblk2⟩ := hAt2.holds hH (s1.trans hds) hblk
            -- ████ 'if hint == decreasingHint { reverseRange; pivot = ..; hint = increasingHint }': THE WAYS MEET
            go_cut [11, 12] from 19 (fun s11 s12 wc => s11 = .int .i64 (rd ltInt dk a' b' lim wb wp).pivot ∧ s12 = .int .i64 (hintCode (rd ltInt dk a' b' lim wb wp).hint) ∧ At encU w blk off (rd ltInt dk a' b' lim wb wp).d2 wc)
            case first =>
              by_cases hh : (rd ltInt dk a' b' lim wb wp).c.2 = .decreasing
              · have hcode : hintCode (rd ltInt dk a' b' lim wb wp).c.2 = 2 := by rw [hh]; rfl
                obtain ⟨e2, epv, eht⟩ := rd_dec hh
                have hc18 := reverseRange_int blk off cap (rd ltInt dk a' b' lim wb wp).d1 a' b' w2 hH2 hab' (by omega) (by omega)
                rw [s1, hds] at hc18
                go_wp2_with (go_at_call 56; refine hc18.mono ?_; rintro e w3 ⟨rfl, hw3⟩)
                go_meet
                case rel =>
                  refine ⟨?_, by rw [eht]; rfl, by rw [e2]; exact hAt2.step hblk (by rw [← e2, s2, s1]) hw3⟩
                  rw [epv]
                  congr 1
                  omega
              · have hcode : ¬ (hintCode (rd ltInt dk a' b' lim wb wp).c.2 = 2) := fun h => hh (hintCode_two h)
                obtain ⟨e2, epv, eht⟩ := rd_not hh
                go_wp2_with fail
                go_meet
                case rel => exact ⟨by rw [epv], by rw [eht], by rw [e2]; exact hAt2⟩
            case rest =>
              obtain ⟨rfl, rfl, hAt3⟩ := hcut
              obtain ⟨hH3, hblk3⟩ := hAt3.holds hH (s2.trans hds) hblk
              -- ████ THE TEST 'wasBalanced && wasPartitioned && hint == increasingHint', over Booleans that are variables: THE WAYS THROUGH THE REGION MEET
              go_upto_region 15 with fail
              go_cut [12, 68] from 19 (fun s12 s68 wx => s12 = .int .i64 (hintCode (rd ltInt dk a' b' lim wb wp).hint) ∧ s68 = .bool (wb && wp && decide ((rd ltInt dk a' b' lim wb wp).hint = .increasing)) ∧ wx = wc)
              case first =>
                cases wb <;> cases wp <;> cases hh3 : (rd ltInt dk a' b' lim _ _).hint <;>
                  (have hcode3 := congrArg hintCode hh3
                   simp only [hintCode] at hcode3
                   go_wp2_with fail
                   go_meet
                   exact ⟨by simp [hh3, hintCode], by simp [hh3, hintCode], rfl⟩)
              case rest =>
                obtain ⟨rfl, rfl, rfl⟩ := hcut
                -- ████ 'if .. { if partialInsertionSort(..) { return } }': THE WAYS MEET (one returns)
                go_upto_if 68 with fail
                go_cut [] from 19 (fun wx => (rd ltInt dk a' b' lim wb wp).pi.2 = false ∧ At encU w blk off (rd ltInt dk a' b' lim wb wp).pi.1 wx)
                case first =>
                  cases h68 : (wb && wp && decide ((rd ltInt dk a' b' lim wb wp).hint = .increasing))
                  · have epi := rd_pi_no h68
                    go_wp2_with fail
                    go_meet
                    case rel => exact ⟨by rw [epi], by rw [epi]; exact hAt3⟩
                  · have epi := rd_pi_yes h68
                    have hc19 := C.par blk off cap a' b' (rd ltInt dk a' b' lim wb wp).d2 wc hH3 (by omega) (by omega) (by omega)
                    rw [s2, hds, ← epi] at hc19
                    go_wp2_with (go_at_call 57; refine hc19.mono ?_; rintro e w4 ⟨rfl, hw4⟩)
                    -- (the walk parts on what the callee says: each way is closed by the script that fits it)
                    all_goals first
                      | (have hp2 : (rd ltInt dk a' b' lim wb wp).pi.2 = false := by rw [epi]; assumption
                         go_meet
                         exact ⟨hp2, hAt3.step hblk (by rw [s3, s2]) hw4⟩)
                      | (have hp2 : (rd ltInt dk a' b' lim wb wp).pi.2 = true := by rw [epi]; assumption
                         (try simp only [Exit.inBlock, Exit.then]); refine bodyPost_ret (results_none rfl _ _ _) rfl ?_
                         refine ⟨rfl, ?_⟩
                         rw [← A.out, pdq_done h12 hl0 hp2]
                         exact hAt3.step hblk (by rw [s3, s2]) hw4)
                case rest =>
                  obtain ⟨hp2, hAt5⟩ := hcut
                  obtain ⟨hH5, hblk5⟩ := hAt5.holds hH (s3.trans hds) hblk
                  -- THE ROW's TWO FAMILIES (the authors' Derived/CellFam.lean)
                  have hcw : ∀ t, t < d.size → wc.cell? ⟨blk, off + t, none⟩ = some (.int .u64 (rd ltInt dk a' b' lim wb wp).pi.1[t]!) := fun t ht => (hH5 t (by omega)).1
                  have hfw : ∀ t, t < d.size → wc.frozen? ⟨blk, off + t, none⟩ = false := fun t ht => (hH5 t (by omega)).2
                  -- ████ THE TEST 'a > 0 && !cmp.Less(data[a-1], data[pivot])': it draws; its guard must be parted on: THE WAYS THROUGH THE REGION MEET
                  go_upto_region 17 with fail
                  go_cut [87] from 19 (fun s87 wx => s87 = .bool (decide (a' > 0) && !ltInt (rd ltInt dk a' b' lim wb wp).pi.1[a' - 1]! (rd ltInt dk a' b' lim wb wp).pi.1[(rd ltInt dk a' b' lim wb wp).pivot]!) ∧ At encU w blk off (rd ltInt dk a' b' lim wb wp).pi.1 wx)
                  case first =>
                    rcases Nat.eq_zero_or_pos a' with ha0 | ha0
                    · have ha0z : decide ((a' : Int) > 0) = false := decide_eq_false (by omega)
                      go_big_quiet (first | (go_at_call 45; refine Calls.quiet_of_same (cmp_Less_int _ _ _)))
                      go_wp2_with fail
                      go_meet
                      case rel => exact ⟨by simp [ha0], hAt5.ahead nq⟩
                    · have ha0z : (a' : Int) > 0 := by omega
                      go_big_quiet (first | (go_at_call 45; refine Calls.quiet_of_same (cmp_Less_int _ _ _)))
                      go_wp2_with fail
                      go_meet
                      case rel => exact ⟨by simp [ha0], hAt5.ahead nq⟩
                  case rest =>
                    obtain ⟨rfl, hAt6⟩ := hcut
                    obtain ⟨hH6, hblk6⟩ := hAt6.holds hH (s3.trans hds) hblk
                    clear hcw hfw
                    cases h87 : (decide (a' > 0) && !ltInt (rd ltInt dk a' b' lim wb wp).pi.1[a' - 1]! (rd ltInt dk a' b' lim wb wp).pi.1[(rd ltInt dk a' b' lim wb wp).pivot]!)
                    · -- ████ 'mid, alreadyPartitioned := partitionOrdered(..)'; THE SMALLER SIDE BY A CALL OF ITSELF, the other by the next round
                      -- (✋ WHAT THE PARTITION GIVES, AS VARIABLES WITH ONE EQUATION: handed 'rfl' for it, the unifier UNFOLDED 'partition' to find the triple's parts, and the ranges came back over 'partLoop ..': nothing met them any more)
                      obtain ⟨mid, ap, d4, hx⟩ : ∃ mid ap d4, partition ltInt (rd ltInt dk a' b' lim wb wp).pi.1 a' b' (rd ltInt dk a' b' lim wb wp).pivot = (mid, ap, d4) := ⟨(partition ltInt (rd ltInt dk a' b' lim wb wp).pi.1 a' b' (rd ltInt dk a' b' lim wb wp).pivot).1, (partition ltInt (rd ltInt dk a' b' lim wb wp).pi.1 a' b' (rd ltInt dk a' b' lim wb wp).pivot).2.1, (partition ltInt (rd ltInt dk a' b' lim wb wp).pi.1 a' b' (rd ltInt dk a' b' lim wb wp).pivot).2.2, rfl⟩
                      obtain ⟨r1, r2, r3, r4, r5, r6, r7⟩ := round_part S.swo S.prt hpv.1 hpv.2 (show b' ≤ (rd ltInt dk a' b' lim wb wp).pi.1.size by omega) B3 hx
                      have hc22 := C.prt blk off cap a' b' (rd ltInt dk a' b' lim wb wp).pivot (rd ltInt dk a' b' lim wb wp).pi.1 wc hH6 hpv.1 hpv.2 (by omega) (by omega)
                      rw [s3, hds, hx] at hc22
                      have X : Aside (partition ltInt (rd ltInt dk a' b' lim wb wp).pi.1 a' b' (rd ltInt dk a' b' lim wb wp).pivot = (mid, ap, d4)) := hx
                      clear hx
                      go_upto_if 113 with (go_at_call 59; refine hc22.mono ?_; rintro e w7 ⟨rfl, hw7⟩)
                      have hx := X.out
                      have hAt7 : At encU w blk off d4 w7 := hAt6.step hblk r3 hw7
                      obtain ⟨hH7, hblk7⟩ := hAt7.holds hH (r3.trans (s3.trans hds)) hblk
                      by_cases h4 : mid - a' < b' - mid
                      · have h4z : (mid : Int) - (a' : Int) < (b' : Int) - (mid : Int) := by omega
                        have hih := ih blk off cap a' mid (rd ltInt dk a' b' lim wb wp).lim d4 w7 (by omega) hH7 hblk7 (by omega) (by omega) (by omega) (Nat.lt_of_le_of_lt (Nat.le_trans rd_lim_le hlim) hlimit) r4
                        rw [r3, s3, hds] at hih
                        obtain ⟨pL, sL⟩ := S.pdq S.swo d4 a' mid (rd ltInt dk a' b' lim wb wp).lim true true (by omega) (by omega) r4
                        go_wp2_with (go_at_call 49; refine hih.mono ?_; rintro e w8 ⟨rfl, hw8⟩)
                        go_roundg (b' - (mid + 1))
                        case measure => omega
                        case rel =>
                          refine ⟨mid + 1, b', (rd ltInt dk a' b' lim wb wp).lim, decide (mid - a' ≥ (b' - a') / 8), ap, pdq ltInt d4 a' mid (rd ltInt dk a' b' lim wb wp).lim true true, by simp, rfl, rfl, ?_, rfl, by omega, by omega, Nat.le_refl _, by omega, Nat.le_trans rd_lim_le hlim, by rw [pL.1, r3, s3, hds], (r6 _ pL sL).1, hAt7.stepG hblk pL.1 hw8, ?_⟩
                          · exact congrArg Value.bool (eighth (by omega) (by omega))
                          · rw [← A.out, pdq_left h12 hl0 hp2 h87 (by rw [hx]; exact ⟨r1, r2⟩) (by rw [hx]; exact h4), hx]
                      · have h4z : ¬ ((mid : Int) - (a' : Int) < (b' : Int) - (mid : Int)) := by omega
                        have hih := ih blk off cap (mid + 1) b' (rd ltInt dk a' b' lim wb wp).lim d4 w7 (by omega) hH7 hblk7 (by omega) (by omega) (by omega) (Nat.lt_of_le_of_lt (Nat.le_trans rd_lim_le hlim) hlimit) r5
                        rw [r3, s3, hds] at hih
                        obtain ⟨pL, sL⟩ := S.pdq S.swo d4 (mid + 1) b' (rd ltInt dk a' b' lim wb wp).lim true true (by omega) (by omega) r5
                        go_wp2_with (go_at_call 49; refine hih.mono ?_; rintro e w8 ⟨rfl, hw8⟩)
                        go_roundg (mid - a')
                        case measure => omega
                        case rel =>
                          refine ⟨a', mid, (rd ltInt dk a' b' lim wb wp).lim, decide (b' - mid ≥ (b' - a') / 8), ap, pdq ltInt d4 (mid + 1) b' (rd ltInt dk a' b' lim wb wp).lim true true, rfl, rfl, rfl, ?_, rfl, by omega, by omega, Nat.le_refl _, by omega, Nat.le_trans rd_lim_le hlim, by rw [pL.1, r3, s3, hds], (r7 _ pL sL).1, hAt7.stepG hblk pL.1 hw8, ?_⟩
                          · exact congrArg Value.bool (eighth (by omega) (by omega))
                          · rw [← A.out, pdq_right h12 hl0 hp2 h87 (by rw [hx]; exact ⟨r1, r2⟩) (by rw [hx]; exact h4), hx]
                    · -- ████ 'mid := partitionEqualOrdered(..); a = mid; continue'
                      have h87' := h87
                      simp only [Bool.and_eq_true, decide_eq_true_eq, Bool.not_eq_true'] at h87'
                      obtain ⟨mid, d4, hx⟩ : ∃ mid d4, partitionEqual ltInt (rd ltInt dk a' b' lim wb wp).pi.1 a' b' (rd ltInt dk a' b' lim wb wp).pivot = (mid, d4) := ⟨(partitionEqual ltInt (rd ltInt dk a' b' lim wb wp).pi.1 a' b' (rd ltInt dk a' b' lim wb wp).pivot).1, (partitionEqual ltInt (rd ltInt dk a' b' lim wb wp).pi.1 a' b' (rd ltInt dk a' b' lim wb wp).pivot).2, rfl⟩
                      obtain ⟨r1, r2, r3, r4, _⟩ := round_eq S.swo S.peq h87'.1 hpv.1 hpv.2 (show b' ≤ (rd ltInt dk a' b' lim wb wp).pi.1.size by omega) B3 h87'.2 hx
                      have hc21 := C.peq blk off cap a' b' (rd ltInt dk a' b' lim wb wp).pivot (rd ltInt dk a' b' lim wb wp).pi.1 wc hH6 hpv.1 hpv.2 (by omega) (by omega)
                      rw [s3, hds, hx] at hc21
                      have X : Aside (partitionEqual ltInt (rd ltInt dk a' b' lim wb wp).pi.1 a' b' (rd ltInt dk a' b' lim wb wp).pivot = (mid, d4)) := hx
                      clear hx
                      go_wp2_with (go_at_call 58; refine hc21.mono ?_; rintro e w7 ⟨rfl, hw7⟩)
                      go_roundg (b' - mid)
                      case measure => omega
                      case rel =>
                        have hx := X.out
                        exact ⟨mid, b', (rd ltInt dk a' b' lim wb wp).lim, wb, wp, d4, rfl, rfl, rfl, rfl, rfl, r2, hb', Nat.le_refl _, by omega, Nat.le_trans rd_lim_le hlim, by rw [r3, s3, hds], r4, hAt6.step hblk r3 hw7, by rw [← A.out, pdq_eq h12 hl0 hp2 h87 (by rw [hx]; exact ⟨r1, r2⟩), hx]⟩

end Go.Proofs.Ytjfkenjmjoncbaa.Srt
namespace Go.Proofs.Ytjfkenjmjoncbaa.Srt
open Go Go.Proofs Go.RowKit Go.Sort
set_option linter.unusedVariables false
set_option linter.unusedSimpArgs false
theorem insertionSort_int_nil (p : Option Addr) (cap : Nat) (w : World) :
    Calls Try.prog 52 #[.slice p 0 cap, .int .i64 0, .int .i64 0] w fun e w' => e = .returned (.tuple #[]) ∧ w' = w := by
  go_enter Try.func52, Try.ntmps52
  go_wp2
  refine wp_loop_rounds 1 ?_
  rw [rounds_succ]
  go_wp2
  go_end0
  exact ⟨rfl, rfl⟩

set_option maxRecDepth 100000 in
theorem pdqsort_int_nil (p : Option Addr) (cap : Nat) (w : World) :
    Calls Try.prog 49 #[.slice p 0 cap, .int .i64 0, .int .i64 0, .int .i64 0] w fun e w' => e = .returned (.tuple #[]) ∧ w' = w := by
  go_enter Try.func49, Try.ntmps49
  go_wp2
  refine wp_loop_rounds 1 ?_
  rw [rounds_succ]
  go_wp2_with (first | (go_at_call 52; refine (insertionSort_int_nil p cap _).mono ?_; rintro e w' ⟨rfl, rfl⟩))
  refine bodyPost_ret (results_none rfl _ _ _) rfl ?_      -- an explicit 'return' in a function without results
  exact ⟨rfl, rfl⟩

set_option maxRecDepth 100000 in
theorem Sort_int_nil (p : Option Addr) (cap : Nat) (w : World) :
    Calls Try.prog 43 #[.slice p 0 cap] w fun e w' => e = .returned (.tuple #[]) ∧ w' = w := by
  have hLen : ∀ w, Calls Try.prog 50 #[.int .u64 0] w fun e w' => e = .returned (.int .i64 0) ∧ w' = w := fun w => bits_Len 0 w (by omega) (by omega)
  go_enter Try.func43, Try.ntmps43
  go_wp2_with (first
    | (go_at_call 50; refine (hLen _).mono ?_; rintro e w' ⟨rfl, rfl⟩)
    | (go_at_call 49; refine (pdqsort_int_nil p cap _).mono ?_; rintro e w' ⟨rfl, rfl⟩))
  go_end0
  exact ⟨rfl, rfl⟩

end Go.Proofs.Ytjfkenjmjoncbaa.Srt
namespace Go.Proofs.Ytjfkenjmjoncbaa.Srt
open Go Go.Proofs Go.Sort
set_option linter.unusedVariables false
set_option linter.unusedSimpArgs false
theorem callees13 : Callees13 where
  ins := insertionSort_int
  brk := breakPatterns_int
  piv := choosePivot_int
  par := partialInsertionSort_int
  peq := partitionEqualOrdered_int
  prt := partitionOrdered_int

theorem plain13 : Plain13 where
  swo := swo_ltInt
  ins := insertionSort_holds
  par := partialInsertionSort_holds
  prt := partition_holds _
  peq := partitionEqual_holds _
  pdq := pdq_sorts _

theorem pdqWalkInt : pdqWalk_int := fun blk off cap a b limit d w hH hb hab hbd hsz hl hB =>
  pdqsort_int callees13 plain13 (b - a + 1) blk off cap a b limit d w (by omega) hH hb hab hbd hsz hl hB

theorem sort_int_eq (zs : List Int) : Sort.sort ltInt zs.toArray = (zs.mergeSort fun x y => decide (x ≤ y)).toArray := by
  rw [← sortInt zs]

theorem slices_Sort_int (blk off cap : Nat) (zs : List Int) (w : World) (hH : Holds (Value.int .u64) w blk off zs.toArray) (hblk : blk < w.heap.size) (hsz : zs.length < 4611686018427387904) :
    Calls Try.prog 43 #[.slice (some ⟨blk, off, none⟩) zs.length cap] w fun e w' =>
      e = .returned (.tuple #[]) ∧ ∃ n os, w' = grow (putRow (Value.int .u64) (Sort.ahead w n) blk off (zs.mergeSort fun x y => decide (x ≤ y)).toArray) os := by
  have h := Sort_int pdqWalkInt blk off cap zs.toArray w hH hblk (by simpa using hsz)
  rw [sort_int_eq] at h
  simpa using h

end Go.Proofs.Ytjfkenjmjoncbaa.Srt

end

section
namespace Go.Proofs.Ytjfkenjmjoncbaa.Lg
open Go Go.Maps Go.WideShapes Go.RowKit Go.Sort Go.Proofs.Ytjfkenjmjoncbaa.PAll Go.Proofs.YtjfkenjmjoncbaaW.PrintWords Go.Proofs.YtjfkenjmjoncbaaW.PrintLast Go.Proofs.YtjfkenjmjoncbaaW.PrintMore
set_option linter.unusedVariables false
set_option linter.unusedSimpArgs false

theorem holds_u64 {w : World} {g : Nat} {cur : Array Value} {e : TypeId} {zs : List Int} (hb : w.heap[g]? = some (.cells cur e (0, 0))) (ht : cur.toList.take zs.length = zs.map (Value.int .u64)) : Holds (Value.int .u64) w g 0 zs.toArray := by
  intro j hj
  have hj' : j < zs.length := by simpa using hj
  refine ⟨?_, by simp [World.frozen?, hb]⟩
  have h1 : (cur.toList.take zs.length)[j]? = (zs.map (Value.int .u64))[j]? := by rw [ht]
  rw [List.getElem?_take_of_lt hj'] at h1
  simp only [World.cell?, hb, Nat.zero_add]
  simp only [Option.isSome_none, Bool.false_eq_true, if_false]
  rw [← Array.getElem?_toList, h1]
  simp [hj']
theorem heap_sorted64 {w : World} {g n : Nat} {os : Array Obj} {cur : Array Value} {e : TypeId} {fr : Nat × Nat} (d : Array Int) (hb : w.heap[g]? = some (.cells cur e fr)) :
    (grow (putRow (Value.int .u64) (Sort.ahead w n) g 0 d) os).heap[g]? = some (.cells (putCells (Value.int .u64) 0 d cur) e fr) := by
  have hg : g < w.heap.size := (Array.getElem?_eq_some_iff.1 hb).1
  rw [heap_grow_old _ _ (by simpa using hg)]
  simp [putRow, mapBlock, Sort.ahead, Array.getElem?_modify, hb, onCells]
theorem grownBy_sorted64 {w : World} {g n : Nat} {os : Array Obj} (d : Array Int) : w.grownBy (grow (putRow (Value.int .u64) (Sort.ahead w n) g 0 d) os) (some g) := by
  refine ⟨rfl, rfl, rfl, by simp, fun k hk hne => ?_⟩
  rw [heap_grow_old _ _ (by simpa using hk)]
  have : g ≠ k := fun e => hne (by rw [e])
  simp [putRow, mapBlock, Sort.ahead, Array.getElem?_modify, this]
theorem take_putCells64 (cur : Array Value) (ts : List Int) (h : ts.length ≤ cur.size) : (putCells (Value.int .u64) 0 ts.toArray cur).toList.take ts.length = ts.map (Value.int .u64) := by
  apply List.ext_getElem?
  intro j
  by_cases hj : j < ts.length
  · rw [List.getElem?_take_of_lt hj, Array.getElem?_toList]
    simp [putCells, hj, show j < cur.size by omega]
  · rw [List.getElem?_take_eq_none (by omega), List.getElem?_eq_none (by simp; omega)]
theorem ownsRow_sorted64 {w : World} {base g cap n : Nat} {e : TypeId} {os : Array Obj} {cur : Array Value} {ss ts : List Int} (hl : ts.length = ss.length) (hbase : base ≤ g) (hb : w.heap[g]? = some (.cells cur e (0, 0)))
    (h1 : ss.length ≤ cap) (h2 : cap ≤ maxLen) (h3 : cur.size = cap * 1) :
    (grow (putRow (Value.int .u64) (Sort.ahead w n) g 0 ts.toArray) os).ownsRow base e 1 (.slice (some ⟨g, 0, none⟩) ss.length cap) ss.length (ts.map (Value.int .u64)) :=
  ⟨by simp [hl], .inr ⟨g, cap, _, rfl, hbase, heap_sorted64 _ hb, h1, h2, by simp [putCells, h3], by rw [Nat.mul_one, ← hl]; exact take_putCells64 cur ts (by omega)⟩⟩
structure Came (l : List LP) (left : Lit → Bool) (xs : List Int) : Prop where
  nd : xs.Nodup
  mem : ∀ x, x ∈ xs ↔ (∃ p ∈ l, p.id = x) ∧ left (.int .u64 x) = false
theorem Came.start (l : List LP) : Came l (Maps.has (mapD l)) [] := by
  refine ⟨List.nodup_nil, fun x => ⟨fun h => by simp at h, fun ⟨⟨p, hp, e⟩, h⟩ => ?_⟩⟩
  rw [mapD_has, List.any_eq_false] at h
  exact absurd (by simpa using e) (h p hp)
theorem Came.step {l : List LP} {left : Lit → Bool} {xs : List Int} (h : Came l left xs) {p : LP} (hp : p ∈ l) (hl : left (.int .u64 p.id) = true) : Came l (fun z => left z && !z.sameKey (.int .u64 p.id)) (xs ++ [p.id]) := by
  have hnew : p.id ∉ xs := fun hx => by have := ((h.mem _).1 hx).2; rw [hl] at this; cases this
  refine ⟨List.nodup_append.2 ⟨h.nd, by simp, fun a ha b hb => by simp at hb; subst hb; exact fun e => hnew (e ▸ ha)⟩, fun y => ?_⟩
  simp only [same_u64]
  by_cases hy : y = p.id
  · subst hy; simp; exact ⟨p, hp, rfl⟩
  · simp [h.mem y, hy]
theorem Rise.ids {l : List LP} (h : Rise l) : (l.map LP.id).Pairwise (· < ·) := List.pairwise_map.2 h
theorem Came.done {l : List LP} (hl : Rise l) {left : Lit → Bool} {xs : List Int} (h : Came l left xs) (hd : ∀ kl, left kl = false) : xs.mergeSort (fun x y => decide (x ≤ y)) = l.map LP.id := by
  have hr := hl.ids
  have hnd : (l.map LP.id).Nodup := hr.imp (fun {a b} hab => by omega)
  have hp : xs.Perm (l.map LP.id) := (List.perm_ext_iff_of_nodup h.nd hnd).2 (fun x => by rw [h.mem x, hd]; simp)
  have tr : ∀ a b c : Int, decide (a ≤ b) = true → decide (b ≤ c) = true → decide (a ≤ c) = true := fun a b c h1 h2 => by simp only [decide_eq_true_eq] at *; omega
  have tot : ∀ a b : Int, (decide (a ≤ b) || decide (b ≤ a)) = true := fun a b => by simp only [Bool.or_eq_true, decide_eq_true_eq]; omega
  refine List.Perm.eq_of_pairwise (le := fun a b => decide (a ≤ b) = true) (fun a b _ _ h1 h2 => ?_) (List.pairwise_mergeSort tr tot xs) (hr.imp (fun {a b} hab => by simp only [decide_eq_true_eq]; omega)) ((List.mergeSort_perm xs _).trans hp)
  simp only [decide_eq_true_eq] at h1 h2
  omega
set_option maxHeartbeats 4000000 in
set_option maxRecDepth 100000 in
theorem ids_calls {w : World} {B g b n : Nat} {v : Value} {L : LG} (h : Led w B g b n v L) (hn : n ≤ 1000000) :
    Calls Try.prog 24 #[.pointer (some ⟨g, 0, none⟩)] w fun e w' => ∃ u, e = .returned u ∧ Kd.R (Kd.int .u64) 24 w' w.heap.size (fun _ => True) u (L.posts.map LP.id) ∧ Below w.heap.size w w' := by
  obtain ⟨⟨h0, h1, h2, h3⟩, hf⟩ := h.cells
  obtain ⟨i0, hi, hz0, hz1, hz2⟩ := info_parts info24
  have I0 := Aside0.mk (And.intro hi (And.intro hz0 (And.intro hz1 hz2)))
  have hm := Aside0.mk h.map
  have hlen := Aside0.mk h.len
  have hok := Aside0.mk h.ok
  have hbl := Aside0.mk (h.lt (.inr (.inl rfl))).2
  have HN := Aside0.mk hn
  clear hi hz0 hz1 hz2 h hn
  go_enter Try.func24, Try.ntmps24
  go_wp2_with (at_range; refine wpList_range_own _ rfl _ 67 rfl 24 42 law24 Try.underlying67 _ b n _ rfl hm.out ?_; intro w0 hrg0 hg0 hs0)
  go_frame
  have X0 := Aside0.mk hrg0
  have X1 := Aside0.mk ((Below.refl w.heap.size w).grown hg0 (Nat.le_refl _) (fun j hj => by cases hj))
  have X4 := Aside0.mk (show w.heap.size < w0.heap.size by omega)
  clear hrg0 hg0 hs0 h0 h1 h2 h3 hf
  go_loopw [3, 4] (fun v3 v4 wr => ∃ (left : Lit → Bool) (cnt : Nat) (xs : List Int), Aside0 (wr.ranges Try.prog 24 postR b w.heap.size n (mapD L.posts) left cnt) ∧ Aside0 (xs.length + cnt ≤ L.posts.length) ∧
      Aside0 (wr.ownsRow (w.heap.size + 1) 24 1 v3 xs.length (xs.map (Value.int .u64))) ∧ Aside0 (Came L.posts left xs) ∧ Aside0 (Below w.heap.size w wr) ∧ Aside0 (w.heap.size < wr.heap.size))
    (fun _ _ wr => wr.rangeLeft b w.heap.size)
  case atStart => exact ⟨_, _, [], X0, ⟨by rw [mapD_size]; simp⟩, ⟨World.ownsRow_nil _ _ _ _⟩, ⟨Came.start _⟩, X1, X4⟩
  case round =>
    obtain ⟨left, cnt, xs, hrg, hcs, hrow, hC, hB, hsz⟩ := hrel
    go_wp2_with (at_next; refine wp_next _ rfl _ rfl b w.heap.size n _ _ rfl hrg.out ?_ ?_)
    · intro hc0 hl0
      have hd := Aside0.mk (hC.out.done hok.out.rise hl0)
      clear hl0
      rcases hrow.out.2 with ⟨hnil, hx0⟩ | ⟨g1, cap, cur, hv, hbase, hb, h1, h2, h3, h4⟩
      · subst hnil
        have hxs := List.length_eq_zero_iff.1 hx0
        subst hxs
        go_wp2_with (go_at_call 43; refine (Srt.Sort_int_nil none 0 _).mono ?_; rintro e w' ⟨rfl, rfl⟩)
        go_ret
        refine ⟨_, rfl, ?_, hB.out⟩
        rw [← hd.out, List.mergeSort_nil]
        exact Kd.R_nil _ _ _ _ _
      · subst hv
        have hH : Holds (Value.int .u64) wr g1 0 xs.toArray := holds_u64 hb (by simpa using h4)
        have hgl : g1 < wr.heap.size := (Array.getElem?_eq_some_iff.1 hb).1
        have hc := Aside0.mk (Srt.slices_Sort_int g1 0 cap xs wr hH hgl (by have := hcs.out; have := hlen.out; have := HN.out; omega))
        have Hb := Aside0.mk (And.intro hbase (And.intro hb (And.intro h1 (And.intro h2 h3))))
        clear hH hgl hbase hb h1 h2 h3 h4
        rw [hd.out] at hc
        go_wp2_with (go_at_call 43; refine hc.out.mono ?_; rintro e w' ⟨rfl, nn, os, rfl⟩)
        go_ret
        have hl1 : (L.posts.map LP.id).length = xs.length := by rw [← hd.out, List.length_mergeSort]
        obtain ⟨hbase, hb, h1, h2, h3⟩ := Hb.out
        have ho := ownsRow_sorted64 (os := os) (n := nn) hl1 hbase hb h1 h2 h3
        rw [← hl1] at ho
        refine ⟨_, rfl, ?_, hB.out.grown (grownBy_sorted64 _) hB.out.size (fun j hj => by cases hj; omega)⟩
        rw [hl1] at ho
        have := Kd.R_of_own (enc := Value.int .u64) (h1 := fun _ => rfl) (ok := fun _ => True) (xs := L.posts.map LP.id) (e := 24) (w := grow (putRow (Value.int .u64) (Sort.ahead wr nn) g1 0 (L.posts.map LP.id).toArray) os) (base := w.heap.size) (v := .slice (some ⟨g1, 0, none⟩) xs.length cap) (by rw [hl1]; exact own_weaken ho (Nat.le_succ _)) (fun _ _ => trivial)
        exact this
    · intro p w2 cnt2 hp hlk hrg2 hlt hg2 hs2 hen
      have hrow2 := Aside0.mk (hrow.out.kept hg2 (Or.inr (row_ne_iter hrow.out hrg.out).symm))
      have HR2 := Aside0.mk hrg2
      have HB2 := Aside0.mk (hB.out.grown hg2 hB.out.size (fun j hj => by cases hj; exact Nat.le_refl _))
      have HS2 := Aside0.mk (show w.heap.size < w2.heap.size by have := hsz.out; omega)
      have HC2 := Aside0.mk (hC.out.step hp hlk)
      have HL := Aside0.mk (show xs.length + 1 + cnt2 ≤ L.posts.length by have := hcs.out; omega)
      have hlen2 : xs.length ≤ 1000000 := by have := hcs.out; have := hlen.out; have := HN.out; omega
      have HXL := Aside0.mk hlen2
      clear hs2 hg2 hrg2 hrow hB hsz hC hcs hp hlk hlen2
      go_wp2_with (at_builtin; refine wpList_append_own _ rfl _ _ 39 rfl (w.heap.size + 1) 24 i0 (.int .u64 0) 1 8 Try.underlying39 I0.out.1 I0.out.2.1 I0.out.2.2.1 I0.out.2.2.2 rfl (by decide) _ _ _ rfl (hrow2.out.alloc _) ⟨w2.heap.size, 0, none⟩ 1 1 [.int .u64 p.id] rfl rfl (cell_one_new _ _ _) (by simp [Value.oneCell']) (by have := HXL.out; unfold maxLen; omega) (by have := HXL.out; omega) (by have := HS2.out; simp; omega) ?_; intro v' w3 hown' hg3 hnil3; have HO3 := Aside0.mk hown'; have HG3 := Aside0.mk hg3; clear hown' hg3 hnil3; go_frame)
      have hrg3 := (HR2.out.alloc _).kept HG3.out (row_ne_low hrow2.out (by have := hbl.out; omega)) (row_ne_iter hrow2.out HR2.out)
      go_roundw
      case rel =>
        refine ⟨_, cnt2, xs ++ [p.id], ⟨hrg3⟩, ⟨by simp; have := HL.out; omega⟩, ⟨by simpa using HO3.out⟩, HC2, ⟨?_⟩, ⟨?_⟩⟩
        · exact (HB2.out.alloc (by have := HS2.out; omega) _).grown HG3.out (by have := HS2.out; simp; omega) (fun j hj => by have := (hrow2.out.lt j hj).1; omega)
        · have q1 := HG3.out.size
          have q2 := HS2.out
          rw [show (w2.alloc _).heap.size = w2.heap.size + 1 by simp] at q1
          omega
      case measure => rw [hrg3.left_eq, hrg.out.left_eq]; exact hlt
end Go.Proofs.Ytjfkenjmjoncbaa.Lg

end

section
namespace Go.Proofs.Ytjfkenjmjoncbaa.Lg
open Go Go.Maps Go.WideShapes Go.RowKit Go.Proofs.Ytjfkenjmjoncbaa.PAll Go.Proofs.YtjfkenjmjoncbaaW.PrintWords Go.Proofs.YtjfkenjmjoncbaaW.PrintLast Go.Proofs.YtjfkenjmjoncbaaW.PrintMore
set_option linter.unusedVariables false
set_option linter.unusedSimpArgs false

def kP (B : Nat) : Kd S52 where
  sz := 2
  E := []
  K := fun w x cs => k52.K w x cs ∧ ∀ ad n c, cs[1]? = some (.slice (some ad) n c) → 0 < n → B ≤ ad.block ∧ ∀ k, k < n → w.frozen? (ad.add k) = false
  M := fun _ _ _ _ _ => False
  K_len := fun h => k52.K_len h.1
  K_one := fun h => k52.K_one h.1
  K_below := fun {w w1 x cs} hb h => by
    refine ⟨k52.K_below hb h.1, fun ad n c hc hn => ?_⟩
    obtain ⟨A, c', rfl, hl, hC⟩ := k52_open h.1
    simp only [List.getElem?_cons_succ, List.getElem?_cons_zero, Option.some.injEq, Value.slice.injEq] at hc
    obtain ⟨rfl, rfl, rfl⟩ := hc
    obtain ⟨h1, h2⟩ := h.2 ad _ _ rfl hn
    refine ⟨h1, fun k hk => ?_⟩
    obtain ⟨ad', e, hcell⟩ := Kd.at_int hC (k : Int) (by omega) (by omega)
    cases e
    have := World.block_lt_of_cell? w _ hcell
    simp only [Int.toNat_natCast] at this
    rw [hb.frozen this]
    exact h2 k hk
  K_of_M := fun h => h.elim
  M_mono := fun _ h => h
  M_bound := fun h => h
  M_move := fun _ h => h
  M_lower := fun _ h => h
def Bts (w : World) (ok : Nat → Prop) (B : Nat) (u : Value) (bs : List Int) : Prop :=
  ∃ A c, u = .slice A bs.length c ∧ bs.length ≤ c ∧ Foot (fun W => (Kd.int .u8).C W A bs.length bs ∧ ∀ ad, A = some ad → 0 < bs.length → B ≤ ad.block ∧ ∀ k, k < bs.length → W.frozen? (ad.add k) = false) w ok
theorem Bts.fk {w : World} {ok : Nat → Prop} {B : Nat} {u : Value} {bs : List Int} (h : Bts w ok B u bs) (x : Int) : Kd.FK (kP B) w ok ⟨x, bs⟩ [.int .u64 x, u] := by
  obtain ⟨A, c, rfl, hl, hF⟩ := h
  intro W' hW
  obtain ⟨h1, h2⟩ := hF W' hW
  refine ⟨k52_mk W' ⟨x, bs⟩ hl h1, fun ad n c' hc hn => ?_⟩
  simp only [List.getElem?_cons_succ, List.getElem?_cons_zero, Option.some.injEq, Value.slice.injEq] at hc
  obtain ⟨rfl, rfl, rfl⟩ := hc
  exact h2 ad rfl hn
theorem Bts.mono {w : World} {ok ok' : Nat → Prop} {B : Nat} {u : Value} {bs : List Int} (h : Bts w ok B u bs) (hk : ∀ k, ok k → ok' k) : Bts w ok' B u bs := by
  obtain ⟨A, c, e, hl, hF⟩ := h
  exact ⟨A, c, e, hl, Foot.mono hF hk⟩
theorem Bts.below {w w1 : World} {ok : Nat → Prop} {B : Nat} {u : Value} {bs : List Int} (h : Bts w ok B u bs) (hb : Below w.heap.size w w1) : Bts w1 ok B u bs := by
  obtain ⟨A, c, e, hl, hF⟩ := h
  exact ⟨A, c, e, hl, Foot.step hF (fun k _ hk => hb.block k hk)⟩
theorem Bts.base {w : World} {ok : Nat → Prop} {B B' : Nat} {u : Value} {bs : List Int} (h : Bts w ok B u bs) (hB : B' ≤ B) : Bts w ok B' u bs := by
  obtain ⟨A, c, e, hl, hF⟩ := h
  exact ⟨A, c, e, hl, fun W' hW => ⟨(hF W' hW).1, fun ad ea hn => ⟨Nat.le_trans hB ((hF W' hW).2 ad ea hn).1, ((hF W' hW).2 ad ea hn).2⟩⟩⟩
theorem Bts.own {w : World} {ok : Nat → Prop} {B : Nat} {u : Value} {bs : List Int} (h : (Kd.int .u8).R 5 w B ok u bs) : Bts w (fun k => B ≤ k) B u bs := by
  obtain ⟨A, c, rfl, hl, _⟩ := Kd.R_reads h
  have hbs := Kd.R_base h
  refine ⟨A, c, rfl, hl, fun W' hW => ?_⟩
  have h2 := Kd.R_step (w1 := W') (Kd.R_mono (Kd.R_bound h) (fun k hk => hk)) (fun k hk hlt => hW k hk.2.1 hlt)
  refine ⟨(Kd.R_reads' h2).2.2, fun ad ea hn => ?_⟩
  obtain ⟨inner, ho⟩ := Kd.R_own h2
  rcases ho.2 with ⟨e, _⟩ | ⟨g, cap, cur, e, hg, hh, _⟩
  · injection e with eA en ec
    rw [eA] at ea
    cases ea
  · injection e with eA en ec
    rw [eA] at ea
    cases ea
    exact ⟨hg, fun k _ => by rw [Go.Proofs.YtjfkenjmjoncbaaW.PrintWords.add_plain]; exact blk_frozen hh k⟩
theorem Bts.text (w : World) (s : ByteArray) (hs : s.size ≤ 2000) {B : Nat} (hB : B ≤ w.heap.size) : Bts (Lib.bytesWorld w 5 s) (fun k => k = w.heap.size) B (.slice (some ⟨w.heap.size, 0, none⟩) s.size (grownCap w s.size 0 5)) (bytesOf s) := by
  have hc := grownCap_ge w s.size 0 5
  refine ⟨some ⟨w.heap.size, 0, none⟩, grownCap w s.size 0 5, by rw [bytesOf_length], by rw [bytesOf_length]; exact hc, fun W' hW => ?_⟩
  have hblk : W'.heap[w.heap.size]? = (Lib.bytesWorld w 5 s).heap[w.heap.size]? := hW _ rfl (by rw [Lib.bytesWorld_size]; omega)
  have hnew := Lib.bytesWorld_at_new w 5 s
  refine ⟨?_, fun ad ea hn => ?_⟩
  · have h1 := bytes_reads w 5 s (by omega)
    refine Kd.C_of_reads (enc := Value.int .u8) (d := (0 : Int)) (h1 := fun _ => rfl) ⟨rfl, by rw [bytesOf_length]; omega, fun hn => ?_⟩
    rw [bytesOf_length] at hn ⊢
    obtain ⟨ad, e, hc⟩ := h1.2.2 hn
    cases e
    refine ⟨_, rfl, fun j hj => ?_⟩
    rw [World.cell?_of_block (w := Lib.bytesWorld w 5 s) (w' := W') (by rw [Go.Proofs.YtjfkenjmjoncbaaW.PrintWords.add_plain]; exact hblk)]
    exact hc j hj
  · cases ea
    refine ⟨hB, fun k hk => ?_⟩
    rw [Go.Proofs.YtjfkenjmjoncbaaW.PrintWords.add_plain]
    rw [bytesOf_length] at hk
    rw [World.frozen?]
    simp only [hblk, hnew]
    have : s.size ≤ (Lib.bytesCells w 5 s).size := by simp [Lib.bytesCells]
    simp
    omega
theorem put_is {x : Int} (h : 0 ≤ x ∧ x ≤ 18446744073709551615) (l : List Int) (hl : l.length ≤ 1000) : ledger_put.f 9 l x = some (l ++ be8 x) := by
  have e : ∀ i : Nat, i < 8 → shr .u64 x ((8 * i : Nat) : Int) % 256 = ((x.toNat / 256 ^ i % 256 : Nat) : Int) := fun i hi => by
    unfold shr
    have h1 : min ((8 * i : Nat) : Int).toNat IntKind.u64.bits = 8 * i := by
      simp only [Int.toNat_natCast]
      exact Nat.min_eq_left (by simp [IntKind.bits]; omega)
    rw [h1]
    have h2 : (x : Int) = ((x.toNat : Nat) : Int) := by omega
    rw [h2]
    have h3 : (2 : Nat) ^ (8 * i) = 256 ^ i := by rw [Nat.pow_mul]
    have h4 : ((2 : Int) ^ (8 * i)) = ((256 ^ i : Nat) : Int) := by rw [← h3]; push_cast; rfl
    rw [h4, ← Int.natCast_ediv]
    simp only [Int.toNat_natCast]
    exact (Int.natCast_emod _ 256).symm
  have w8 : ∀ i : Nat, i ≤ 8 → wrap64 (((8 * i : Nat) : Int) - 8) = ((8 * i : Nat) : Int) - 8 := fun i hi => by unfold wrap64; omega
  have step : ∀ (i : Nat) (k : Nat) (acc : List Int), i < 8 → acc.length ≤ 1000 + 8 → ledger_put.l0 (k + 1) acc x ((8 * i : Nat) : Int) = ledger_put.l0 k (acc ++ [((x.toNat / 256 ^ i % 256 : Nat) : Int)]) x (((8 * i : Nat) : Int) - 8) := fun i k acc hi hacc => by
    rw [ledger_put.l0, if_pos (by omega), if_pos (by omega), if_pos (by omega), e i hi, w8 i (by omega)]
  unfold ledger_put.f be8
  rw [show (56 : Int) = ((8 * 7 : Nat) : Int) by decide, step 7 8 _ (by omega) (by omega), show (((8 * 7 : Nat) : Int) - 8) = ((8 * 6 : Nat) : Int) by decide, step 6 7 _ (by omega) (by simp; omega), show (((8 * 6 : Nat) : Int) - 8) = ((8 * 5 : Nat) : Int) by decide,
    step 5 6 _ (by omega) (by simp; omega), show (((8 * 5 : Nat) : Int) - 8) = ((8 * 4 : Nat) : Int) by decide, step 4 5 _ (by omega) (by simp; omega), show (((8 * 4 : Nat) : Int) - 8) = ((8 * 3 : Nat) : Int) by decide, step 3 4 _ (by omega) (by simp; omega), show (((8 * 3 : Nat) : Int) - 8) = ((8 * 2 : Nat) : Int) by decide,
    step 2 3 _ (by omega) (by simp; omega), show (((8 * 2 : Nat) : Int) - 8) = ((8 * 1 : Nat) : Int) by decide, step 1 2 _ (by omega) (by simp; omega), show (((8 * 1 : Nat) : Int) - 8) = ((8 * 0 : Nat) : Int) by decide, step 0 1 _ (by omega) (by simp; omega)]
  rw [ledger_put.l0, if_neg (by decide)]
  simp [be, List.append_assoc]
theorem step_append_str {P : Program} {ops : Array Oper} {o : Oper} {a : Act} {w : World} {K : Act → World → Prop} {Q : Exit → Act → World → Prop} {E : Prop} (base : Nat) (hgd : o.guard = none) (sl x : Operand) (t u e : TypeId)
    (ho : o.op = .call { callee := .builtin .append, args := #[sl, x], argTypes := #[t, u] })
    (ht : P.underlying t = some (.slice e)) (hu : P.underlying u = some .string) (hinfo : (P.info? e).map (fun i => (i.zero, i.size, i.bytes)) = some (some (.int .u8 0), 1, 1))
    (v : Value) (xs : List Int) (y : ByteArray) (hs : a.eval sl = v) (hx : a.eval x = .string y)
    (HO : w.ownsRow base e 1 v xs.length (Go.Proofs.YtjfkenjmjoncbaaW.PrintWords.nums .u8 xs)) (hbase : base ≤ w.heap.size) (hl : xs.length + y.size ≤ 140737488355328)
    (h : ∀ v1 w1, w1.ownsRow base e 1 v1 (xs ++ bytesOf y).length (Go.Proofs.YtjfkenjmjoncbaaW.PrintWords.nums .u8 (xs ++ bytesOf y)) → w.grownBy w1 v.ownBlock → K (a.put o.dst v1) w1) :
    if Region.wanted o (yielded ops a.tmps) = true then Oper.wp P o a w K Q else E := by
  rw [if_pos (by simp [Region.wanted, hgd])]
  obtain ⟨i0, hi, hzz⟩ := Option.map_eq_some_iff.1 hinfo
  simp only [Prod.mk.injEq] at hzz
  obtain ⟨hz0, hz1, hz2⟩ := hzz
  obtain ⟨v', w', hr, h2, h3, h4⟩ := Lib.run_append_own_string (P := P) w base t u o.type e i0 ht hu hi hz0 hz1 hz2 v xs.length (Go.Proofs.YtjfkenjmjoncbaaW.PrintWords.nums .u8 xs) HO y (by simp only [maxLen]; omega) hl hbase
  unfold Oper.wp execOp
  simp only [ho, resolve, invoke, builtin, Sem.run_bind, Sem.run_pure, Result.andThen_ok, List.map_toArray, List.map_cons, List.map_nil, hs, hx, hr]
  refine h v' w' ?_ h3
  have hl2 : (xs ++ bytesOf y).length = xs.length + y.size := by rw [List.length_append, bytesOf_length]
  have hc : Go.Proofs.YtjfkenjmjoncbaaW.PrintWords.nums .u8 (xs ++ bytesOf y) = Go.Proofs.YtjfkenjmjoncbaaW.PrintWords.nums .u8 xs ++ Lib.strCells y := by
    rw [nums_append]
    congr 1
    simp [Go.Proofs.YtjfkenjmjoncbaaW.PrintWords.nums, bytesOf, Lib.strCells]
  rw [hl2, hc]
  exact h2
theorem info52 : (Try.prog.info? 52).map (fun i => (i.zero, i.size, i.bytes)) = some (some (.agg #[.int .u64 0, .slice none 0 0]), 2, 32) := by kernel_rfl
def PRow (w : World) (B : Nat) (u : Value) (ps : List S52) : Prop := Kd.N (kP B) 52 w B (fun k => B ≤ k) u ps
def postS (p : LP) : S52 := ⟨p.id, be8 p.ver ++ bytesOf p.text⟩
def polS (j : Nat) (s : ByteArray) : S52 := ⟨9223372036854775808 + (j : Int) + 1, bytesOf s⟩
def polsS (l : List ByteArray) : List S52 := (List.range l.length).map (fun j => polS j (rdOf ByteArray.empty l (j : Int)))
def LG.pairsS (L : LG) : List S52 := L.posts.map postS ++ polsS L.pols ++ [⟨18446744073709551615, L.status⟩]
theorem prow_append {w0 W : World} {ops : Array Oper} {rest : List Oper} {o : Oper} {a : Act} {Q : Exit → Act → World → Prop} (B : Nat) (hgd : o.guard = none) (s x : Operand)
    (ho : o.op = .call { callee := .builtin .append, args := #[s, x], argTypes := #[29, 29] }) (v : Value) (ps : List S52) (key : Int) (u : Value) (bs : List Int) (hs : a.eval s = v) (hx : a.eval x = .slice (some ⟨W.heap.size, 0, none⟩) 1 1)
    (H : Nat) (hu : Bts W (fun k => H ≤ k) B u bs) (hH : ∀ k, v.ownBlock = some k → k < H) (hBH : B ≤ H) (HO : PRow W B v ps) (HB : Below B w0 W) (hbase : B ≤ W.heap.size) (hl : ps.length ≤ 2000000)
    (h : ∀ v1 w1, PRow w1 B v1 (ps ++ [⟨key, bs⟩]) → Below B w0 w1 → wpList Try.prog ops Q rest (a.put o.dst v1) w1) :
    wpList Try.prog ops Q (o :: rest) a (W.alloc (.cells #[.int .u64 key, u] 52)) :=
  Kd.N_append (kP B) (P := Try.prog) B hgd s x 29 52 (.agg #[.int .u64 0, .slice none 0 0]) 32 ho Try.underlying29 info52 rfl (Nat.succ_pos 1) (by decide) v ps ⟨key, bs⟩ [.int .u64 key, u] (fun k => B ≤ k) (fun k => H ≤ k) hs hx (hu.fk key)
    (fun k hk => ⟨Nat.le_trans hBH hk, fun e => by have := hH k e.symm; omega⟩) (fun k hk => Nat.le_trans hbase hk) HO HB hbase (by omega) (fun v1 w1 h1 h2 _ _ => h v1 w1 h1 h2)
theorem prow_step {w0 W : World} {ops : Array Oper} {o : Oper} {a : Act} {K : Act → World → Prop} {Q : Exit → Act → World → Prop} {E : Prop} (B : Nat) (hgd : o.guard = none) (s x : Operand)
    (ho : o.op = .call { callee := .builtin .append, args := #[s, x], argTypes := #[29, 29] }) (v : Value) (ps : List S52) (key : Int) (u : Value) (bs : List Int) (hs : a.eval s = v) (hx : a.eval x = .slice (some ⟨W.heap.size, 0, none⟩) 1 1)
    (H : Nat) (hu : Bts W (fun k => H ≤ k) B u bs) (hH : ∀ k, v.ownBlock = some k → k < H) (hBH : B ≤ H) (HO : PRow W B v ps) (HB : Below B w0 W) (hbase : B ≤ W.heap.size) (hl : ps.length ≤ 2000000)
    (h : ∀ v1 w1, PRow w1 B v1 (ps ++ [⟨key, bs⟩]) → Below B w0 w1 → W.grownBy w1 v.ownBlock → K (a.put o.dst v1) w1) :
    if Region.wanted o (yielded ops a.tmps) = true then Oper.wp Try.prog o a (W.alloc (.cells #[.int .u64 key, u] 52)) K Q else E := by
  have hw : Region.wanted o (yielded ops a.tmps) = true := by simp [Region.wanted, hgd]
  have := Kd.N_append_step (kP B) (P := Try.prog) (Q := Q) (Kc := K) B hw s x 29 52 (.agg #[.int .u64 0, .slice none 0 0]) 32 ho Try.underlying29 info52 rfl (Nat.succ_pos 1) (by decide) v ps ⟨key, bs⟩ [.int .u64 key, u] (fun k => B ≤ k) (fun k => H ≤ k) hs hx (hu.fk key)
    (fun k hk => ⟨Nat.le_trans hBH hk, fun e => by have := hH k e.symm; omega⟩) (fun k hk => Nat.le_trans hbase hk) HO HB hbase (by omega) (fun v1 w1 h1 h2 h3 _ => h v1 w1 h1 h2 h3)
  rw [if_pos hw] at this ⊢
  exact this
theorem PRow.below {w w1 : World} {B : Nat} {u : Value} {ps : List S52} (h : PRow w B u ps) (hb : Below w.heap.size w w1) : PRow w1 B u ps := Kd.N_below h hb
set_option maxHeartbeats 4000000 in
set_option maxRecDepth 100000 in
theorem Pairs_calls {w : World} {B g b n : Nat} {v : Value} {L : LG} (h : Led w B g b n v L) (hn : n ≤ 1000000) :
    Calls Try.prog 9 #[.pointer (some ⟨g, 0, none⟩)] w fun e w' => ∃ u B1, e = .returned u ∧ w.heap.size ≤ B1 ∧ PRow w' B1 u L.pairsS ∧ Below w.heap.size w w' := by
  have HI := Aside0.mk (ids_calls h hn)
  have HN := Aside0.mk hn
  have HH := Aside0.mk h
  have HOK := Aside0.mk h.ok
  have HLN := Aside0.mk h.len
  obtain ⟨AP, cP, rfl, hcP, _⟩ := h.pol_at
  have HCP := Aside0.mk hcP
  obtain ⟨⟨h0, h1, h2, h3⟩, hf⟩ := h.cells
  clear h hn hcP
  go_enter Try.func9, Try.ntmps9
  go_wp2_with (go_at_call 24; refine HI.out.mono ?_; rintro e wI ⟨uI, rfl, hR, hbI⟩; obtain ⟨AI, cI, eI⟩ := Kd.R_slice hR; subst eI; have HRI := Aside0.mk hR; have HBI := Aside0.mk hbI; clear hR hbI h0 h1 h2 h3 hf)
  have hilen : (L.posts.map LP.id).length = L.posts.length := by simp
  have HCI := Aside0.mk (Kd.R_reads' HRI.out).2.2
  have HLI := Aside0.mk (HH.out.below HBI.out)
  rw [hilen] at HCI
  clear hilen
  go_loopg [3, 15] L.posts.length (fun kq v3 v15 wr => ∃ J : Int, v15 = .int .i64 J ∧ Aside0 (0 ≤ J ∧ J + kq = L.posts.length) ∧ Aside0 (PRow wr wI.heap.size v3 ((L.posts.map postS).take J.toNat)) ∧ Aside0 (Below wI.heap.size wI wr))
  case atStart => exact ⟨0, rfl, ⟨by omega⟩, ⟨Kd.N_nil _ _ _ _ _⟩, ⟨Below.refl _ _⟩⟩
  case round =>
    obtain ⟨J, rfl, HJ, HP, HB⟩ := hrel
    by_cases c1 : J < L.posts.length
    · have c1b : decide (J < (L.posts.length : Int)) = true := decide_eq_true c1
      have q0 := eq_true HJ.out.1
      have q1 := eq_true c1
      obtain ⟨p, hpm, hpi, hpg, hpj⟩ : ∃ p, p ∈ L.posts ∧ rd (L.posts.map LP.id) J = p.id ∧ L.get p.id = p ∧ (L.posts.map postS)[J.toNat]? = some (postS p) := by
        have hj : J.toNat < L.posts.length := by have := HJ.out.1; omega
        have e1 : rd (L.posts.map LP.id) J = L.posts[J.toNat].id := by unfold rd; simp [hj]
        refine ⟨L.posts[J.toNat], List.getElem_mem hj, e1, ?_, by simp [hj]⟩
        unfold LG.get
        rw [HOK.out.rise.find (List.getElem_mem hj)]
        rfl
      obtain ⟨ad, ea, hx⟩ := Kd.at_int HCI.out J HJ.out.1 c1
      subst ea
      rw [hpi] at hx
      replace hx := (HB.out.cell (World.block_lt_of_cell? wI _ hx)).trans hx
      have HLr := Aside0.mk (HLI.out.below HB.out)
      obtain ⟨⟨h0, h1, h2, h3⟩, hf⟩ := HLr.out.cells
      have hk := Aside0.mk (keyOf_int_mk Try.underlying24 (wf64 (x := p.id) (by have := HOK.out.ids p hpm; omega)))
      have HPG := Aside0.mk hpg
      have HPJ := Aside0.mk hpj
      have hput := Aside0.mk (show ledger_put.f 9 [] p.ver = some (be8 p.ver) from put_is (HOK.out.vers p hpm) [] (by simp))
      have HTX := Aside0.mk (HOK.out.texts p hpm)
      clear hpm hpi hpg hpj c1
      go_wp2_with (at_lookup; refine wp_look _ rfl _ _ rfl rfl HLr.out.map rfl hk.out ?_; rw [HPG.out])
      have HB8 := Aside0.mk (below_alloc HB.out (.cells #[.int .u64 p.id, .int .u64 p.ver, .string p.text] 42))
      have HP8 := Aside0.mk (HP.out.below (below_alloc (Below.refl _ _) (.cells #[.int .u64 p.id, .int .u64 p.ver, .string p.text] 42)))
      have BK8 := Aside0.mk (blk_new wr (.cells #[.int .u64 p.id, .int .u64 p.ver, .string p.text] 42))
      have HS8 := Aside0.mk (show wI.heap.size ≤ (wr.alloc (.cells #[.int .u64 p.id, .int .u64 p.ver, .string p.text] 42)).heap.size from HB8.out.size)
      clear hx h0 h1 h2 h3 hf
      generalize wr.heap.size = N8 at BK8 ⊢
      generalize wr.alloc (.cells #[.int .u64 p.id, .int .u64 p.ver, .string p.text] 42) = W8 at HB8 HP8 BK8 HS8 ⊢
      have HSa := Aside0.mk (show ∀ W, Below W8.heap.size W8 W → (W.cell? ⟨N8, 1, none⟩ = some (.int .u64 p.ver) ∧ W.cell? ⟨N8, 2, none⟩ = some (.string p.text)) from fun W hW => ⟨(blk_cell (blk_below BK8.out hW) 1).trans rfl, (blk_cell (blk_below BK8.out hW) 2).trans rfl⟩)
      have HBc := Aside0.mk (Below.refl W8.heap.size W8)
      obtain ⟨bs, hbs⟩ : ∃ bs, bs = be8 p.ver ++ bytesOf p.text := ⟨_, rfl⟩
      have HBS := Aside0.mk hbs
      clear hbs
      go_region_held3 (fun W => W.cell? ⟨N8, 1, none⟩ = some (.int .u64 p.ver) ∧ W.cell? ⟨N8, 2, none⟩ = some (.string p.text)) ((first | exact HSE.out | (refine HSa.out _ ?_; repeat (first | exact HBc.out | exact Below.refl _ _ | apply below_drew1 | apply pw_below_drewN | apply below_alloc)))) (first | (go_at_call 25; refine (ledger_put.calls 9 (fun _ => False) (.slice none 0 0) [] p.ver (be8 p.ver) _ _ (Below.refl _ _) (Kd.R_nil _ _ _ _ _) hput.out).mono ?_; rintro e w5 ⟨v5, rfl, hR5, hb5, hk5⟩; obtain ⟨A5, c5, e5⟩ := Kd.R_slice hR5; subst e5; have HR5 := Aside0.mk hR5; have n0_ := Aside0.mk ((show Below W8.heap.size W8 _ from by repeat (first | exact HBc.out | exact Below.refl _ _ | apply below_drew1 | apply pw_below_drewN | apply below_alloc)).trans hb5); clear HBc; have HBc := n0_; clear n0_ hR5 hb5 hk5) | (refine step_append_str (P := Try.prog) W8.heap.size rfl (.tmp 29) (.tmp 31) 50 9 5 rfl Try.underlying50 Try.underlying9 info5 (.slice A5 (be8 p.ver).length c5) (be8 p.ver) p.text rfl rfl (Kd.own_of_R HR5.out) (HBc.out.size) (by have := HTX.out; rw [be8_len]; omega) ?_; intro v6 w6 ho6 hg6; rw [← HBS.out] at ho6; have HR6 := Aside0.mk (show (Kd.int .u8).R 5 w6 W8.heap.size (fun _ => True) v6 bs from Kd.R_of_own ho6 (fun _ _ => trivial)); obtain ⟨A6, c6, e6⟩ := Kd.R_slice HR6.out; subst e6; have n0_ := Aside0.mk (HBc.out.grown hg6 HBc.out.size (fun k hk => Kd.R_base HR5.out k hk)); clear HBc; have HBc := n0_; clear n0_ ho6 hg6) | (refine prow_step (w0 := wI) wI.heap.size rfl (.tmp 25) (.tmp 34) rfl u3 ((L.posts.map postS).take J.toNat) p.id (.slice A6 bs.length c6) bs rfl rfl W8.heap.size (((Bts.own HR6.out).base HS8.out)) (fun k hk => Kd.N_lt HP8.out k hk) HS8.out (HP8.out.below HBc.out) (HB8.out.trans (HBc.out.mono HS8.out)) (Nat.le_trans HS8.out HBc.out.size) (by have := HN.out; have := HLN.out; simp; omega) ?_; intro v9 w9 hP9 hB9 hg9; have HP9 := Aside0.mk hP9; have HB9 := Aside0.mk hB9; have hbk9 : w9.heap[N8]? = some (.cells #[.int .u64 p.id, .int .u64 p.ver, .string p.text] 42 (0, 0)) := (hg9.block N8 (blk_lt (blk_below BK8.out HBc.out)) (Kd.N_ne (HP8.out.below HBc.out) (blk_below BK8.out HBc.out) (by decide))).trans (blk_below BK8.out HBc.out); have HSE : Aside0 (w9.cell? ⟨N8, 1, none⟩ = some (.int .u64 p.ver) ∧ w9.cell? ⟨N8, 2, none⟩ = some (.string p.text)) := ⟨(blk_cell hbk9 1).trans rfl, (blk_cell hbk9 2).trans rfl⟩; clear hP9 hB9 hg9 hbk9))
      go_wp2
      go_roundg (gk - 1)
      case measure => have := HJ.out; have := of_decide_eq_true c1b; omega
      case rel =>
        have hJ := HJ.out
        have hJ2 := of_decide_eq_true c1b
        refine ⟨J + 1, by rw [show wrap64 (J + 1) = J + 1 from (by have := HN.out; have := HLN.out; unfold wrap64; omega)], ⟨by omega⟩, ⟨?_⟩, HB9⟩
        have e1 : (J + 1).toNat = J.toNat + 1 := by omega
        rw [e1, List.take_add_one, HPJ.out]
        have e2 : (⟨p.id, bs⟩ : S52) = postS p := by rw [HBS.out]; rfl
        rw [e2] at HP9
        exact HP9.out
    · have c1b : decide (J < (L.posts.length : Int)) = false := decide_eq_false c1
      have hJ1 : J.toNat = L.posts.length := by have := HJ.out; omega
      rw [hJ1, List.take_of_length_le (by simp)] at HP
      clear hJ1 c1
      have HLr := Aside0.mk (HLI.out.below HB.out)
      obtain ⟨⟨h0, h1, h2, h3⟩, hf⟩ := HLr.out.cells
      have HPO := Aside0.mk HOK.out.pols
      go_wp2
      go_loopg [3, 42] L.pols.length (fun kq v3 v42 wr => ∃ J : Int, v42 = .int .i64 J ∧ Aside0 (0 ≤ J ∧ J + kq = L.pols.length) ∧ Aside0 (PRow wr wI.heap.size v3 (L.posts.map postS ++ (polsS L.pols).take J.toNat)) ∧ Aside0 (Below wI.heap.size wI wr))
      case atStart => exact ⟨0, rfl, ⟨by omega⟩, ⟨by simpa using HP.out⟩, HB⟩
      case round =>
        clear HP HB HLr h0 h1 h2 h3 hf HJ c1b
        obtain ⟨J, rfl, HJ, HP, HB⟩ := hrel
        have HLr := Aside0.mk (HLI.out.below HB.out)
        by_cases c1 : J < L.pols.length
        · have c1b : decide (J < (L.pols.length : Int)) = true := decide_eq_true c1
          have q0 := eq_true HJ.out.1
          have q1 := eq_true c1
          obtain ⟨A', c', ev, _, hat⟩ := HLr.out.pol_at
          injection ev with eA en ec
          subst eA; subst ec
          clear en
          obtain ⟨ad, ea, hx⟩ := hat J HJ.out.1 c1
          subst ea
          clear hat
          obtain ⟨s, hs⟩ : ∃ s, s = rdOf ByteArray.empty L.pols J := ⟨_, rfl⟩
          have hj : J.toNat < L.pols.length := by have := HJ.out.1; omega
          have hsm : s ∈ L.pols := by rw [hs]; unfold rdOf; rw [List.getD_eq_getElem?_getD, List.getElem?_eq_getElem hj]; exact List.getElem_mem hj
          have HSZ := Aside0.mk (HOK.out.ptexts s hsm)
          have HPJ : Aside0 ((polsS L.pols)[J.toNat]? = some (polS J.toNat s)) := ⟨by
            unfold polsS
            rw [List.getElem?_map, List.getElem?_range hj]
            simp only [Option.map_some]
            rw [hs, show ((J.toNat : Nat) : Int) = J by have := HJ.out.1; omega]⟩
          rw [← hs] at hx
          have hcv := fun W => print_bytes (P := Try.prog) 9 50 5 Try.underlying9 Try.underlying50 Try.underlying5 s W
          have hJb := HJ.out
          obtain ⟨K1, hK1⟩ : ∃ K1, K1 = 9223372036854775808 + J := ⟨_, rfl⟩
          obtain ⟨K2, hK2⟩ : ∃ K2, K2 = K1 + 1 := ⟨_, rfl⟩
          have hw1 : IntKind.u64.wrap J = J := by have := HPO.out; simp [IntKind.wrap, IntKind.bits, IntKind.signed]; omega
          have hw2 : IntKind.u64.wrap (9223372036854775808 + J) = K1 := by have := HPO.out; rw [hK1]; simp [IntKind.wrap, IntKind.bits, IntKind.signed]; omega
          have hw3 : IntKind.u64.wrap (K1 + 1) = K2 := by have := HPO.out; rw [hK2, hK1]; simp [IntKind.wrap, IntKind.bits, IntKind.signed]; omega
          have HK2 := Aside0.mk (show K2 = 9223372036854775808 + J + 1 by rw [hK2, hK1])
          have HBr := Aside0.mk (bytes_below (Below.refl wr.heap.size wr) (Nat.le_refl _) 5 s)
          clear hs hsm hj hJb hK1 hK2 c1
          go_wp2_with (at_builtin; refine prow_append (w0 := wI) wI.heap.size rfl _ _ rfl u3 (L.posts.map postS ++ (polsS L.pols).take J.toNat) K2 (.slice (some ⟨wr.heap.size, 0, none⟩) s.size (grownCap wr s.size 0 5)) (bytesOf s) rfl rfl wr.heap.size ((Bts.text wr s HSZ.out (HB.out.size)).mono (fun k hk => Nat.le_of_eq hk.symm)) (fun k hk => Kd.N_lt HP.out k hk) HB.out.size (HP.out.below HBr.out) (HB.out.trans (HBr.out.mono HB.out.size)) (Nat.le_trans HB.out.size HBr.out.size) (by have := HN.out; have := HLN.out; have := HPO.out; simp [polsS]; omega) ?_; intro v9 w9 hP9 hB9; have HP9 := Aside0.mk hP9; have HB9 := Aside0.mk hB9; clear hP9 hB9; go_frame)
          go_roundg (gk - 1)
          case measure => have := HJ.out; have := of_decide_eq_true c1b; omega
          case rel =>
            have hJ := HJ.out
            have hJ2 := of_decide_eq_true c1b
            refine ⟨J + 1, by rw [show wrap64 (J + 1) = J + 1 from (by have := HPO.out; unfold wrap64; omega)], ⟨by omega⟩, ⟨?_⟩, HB9⟩
            have e1 : (J + 1).toNat = J.toNat + 1 := by omega
            rw [e1, List.take_add_one, HPJ.out]
            have e2 : (⟨K2, bytesOf s⟩ : S52) = polS J.toNat s := by
              unfold polS
              rw [HK2.out]
              congr 3
              omega
            rw [e2, List.append_assoc] at HP9
            exact HP9.out
        · have c1b : decide (J < (L.pols.length : Int)) = false := decide_eq_false c1
          have hJ1 : J.toNat = L.pols.length := by have := HJ.out; omega
          rw [hJ1, List.take_of_length_le (by simp [polsS])] at HP
          clear hJ1 c1
          obtain ⟨⟨h0, h1, h2, h3⟩, hf⟩ := HLr.out.cells
          go_wp2
          have HSF := Aside0.mk HB.out.size
          obtain ⟨WF, hWF⟩ : ∃ WF, WF = wr := ⟨_, rfl⟩
          rw [← hWF] at HP HB HLr HSF ⊢
          clear hWF h0 h1 h2 h3 hf
          obtain ⟨bs1, hb1⟩ : ∃ bs1, bs1 = be8 L.next := ⟨_, rfl⟩
          obtain ⟨bs2, hb2⟩ : ∃ bs2, bs2 = bs1 ++ be8 L.newest := ⟨_, rfl⟩
          obtain ⟨bs3, hb3⟩ : ∃ bs3, bs3 = bs2 ++ be8 L.cur := ⟨_, rfl⟩
          have hnw : 0 ≤ L.newest ∧ L.newest ≤ 18446744073709551615 := by have := HPO.out; unfold LG.newest; omega
          have P1 : Aside0 (ledger_put.f 9 [] L.next = some bs1) := ⟨by rw [hb1]; exact put_is HOK.out.next [] (by simp)⟩
          have P2 : Aside0 (ledger_put.f 9 bs1 L.newest = some bs2) := ⟨by rw [hb2]; exact put_is hnw bs1 (by rw [hb1, be8_len]; omega)⟩
          have P3 : Aside0 (ledger_put.f 9 bs2 L.cur = some bs3) := ⟨by rw [hb3]; exact put_is HOK.out.cur bs2 (by rw [hb2, hb1, List.length_append, be8_len, be8_len]; omega)⟩
          have HBS : Aside0 (bs3 = L.status) := ⟨by rw [hb3, hb2, hb1]; rfl⟩
          clear hb1 hb2 hb3 hnw
          have HSa := Aside0.mk (show ∀ W, Below WF.heap.size WF W → (W.cell? ⟨g, 2, none⟩ = some (.int .u64 L.next) ∧ W.cell? ⟨g, 3, none⟩ = some (.int .u64 L.cur)) from fun W hW => ⟨(HLr.out.below hW).cells.1.2.2.1, (HLr.out.below hW).cells.1.2.2.2⟩)
          have HBc := Aside0.mk (Below.refl WF.heap.size WF)
          go_region_held3 (fun W => W.cell? ⟨g, 2, none⟩ = some (.int .u64 L.next) ∧ W.cell? ⟨g, 3, none⟩ = some (.int .u64 L.cur)) ((refine HSa.out _ ?_; repeat (first | exact HBc.out | exact Below.refl _ _ | apply below_drew1 | apply pw_below_drewN | apply below_alloc))) (first
            | (go_at_call 26; refine (newest_calls (HLr.out.below (show Below WF.heap.size WF _ from by repeat (first | exact HBc.out | exact Below.refl _ _ | apply below_drew1 | apply pw_below_drewN | apply below_alloc)))).mono ?_; rintro e w5 ⟨rfl, rfl⟩)
            | (go_at_call 25; (with_reducible refine (ledger_put.calls 9 (fun _ => True) (.slice none 0 0) [] L.next bs1 WF _ ?s1 ?s2 P1.out).mono ?_); (case s1 => repeat (first | exact HBc.out | exact Below.refl _ _ | apply below_drew1 | apply pw_below_drewN | apply below_alloc)); (case s2 => exact Kd.R_nil _ _ _ _ _); rintro e w5 ⟨v5, rfl, hR5, hb5, hk5⟩; have hR1 := Aside0.mk (Kd.R_mono (ok' := fun _ => True) hR5 (fun _ _ => trivial)); obtain ⟨AR1, cR1, e5⟩ := Kd.R_slice hR1.out; subst e5; clear HBc; have HBc := Aside0.mk hb5; clear hR5 hb5 hk5)
            | (go_at_call 25; (with_reducible refine (ledger_put.calls 9 (fun _ => True) (.slice AR1 bs1.length cR1) bs1 L.newest bs2 WF _ ?s1 ?s2 P2.out).mono ?_); (case s1 => repeat (first | exact HBc.out | exact Below.refl _ _ | apply below_drew1 | apply pw_below_drewN | apply below_alloc)); (case s2 => exact Kd.R_below hR1.out (by first | exact Below.refl _ _ | exact below_drew1 (Below.refl _ _))); rintro e w5 ⟨v5, rfl, hR5, hb5, hk5⟩; have hR2 := Aside0.mk (Kd.R_mono (ok' := fun _ => True) hR5 (fun _ _ => trivial)); obtain ⟨AR2, cR2, e5⟩ := Kd.R_slice hR2.out; subst e5; clear HBc; have HBc := Aside0.mk hb5; clear hR5 hb5 hk5)
            | (go_at_call 25; (with_reducible refine (ledger_put.calls 9 (fun _ => True) (.slice AR2 bs2.length cR2) bs2 L.cur bs3 WF _ ?s1 ?s2 P3.out).mono ?_); (case s1 => repeat (first | exact HBc.out | exact Below.refl _ _ | apply below_drew1 | apply pw_below_drewN | apply below_alloc)); (case s2 => exact Kd.R_below hR2.out (by first | exact Below.refl _ _ | exact below_drew1 (Below.refl _ _))); rintro e w5 ⟨v5, rfl, hR5, hb5, hk5⟩; have hR3 := Aside0.mk (Kd.R_mono (ok' := fun _ => True) hR5 (fun _ _ => trivial)); obtain ⟨AR3, cR3, e5⟩ := Kd.R_slice hR3.out; subst e5; clear HBc; have HBc := Aside0.mk hb5; clear hR5 hb5 hk5))
          have HB5 := Aside0.mk (HB.out.trans (HBc.out.mono HSF.out))
          go_wp2_with (at_builtin; refine prow_append (w0 := wI) wI.heap.size rfl _ _ rfl u3 (L.posts.map postS ++ polsS L.pols) 18446744073709551615 (.slice AR3 bs3.length cR3) bs3 rfl rfl WF.heap.size ((Bts.own hR3.out).base HSF.out) (fun k hk => Kd.N_lt HP.out k hk) HSF.out (HP.out.below HBc.out) HB5.out (Nat.le_trans HSF.out HBc.out.size) (by have := HN.out; have := HLN.out; have := HPO.out; simp [polsS]; omega) ?_; intro v9 w9 hP9 hB9; have HP9 := Aside0.mk hP9; have HB9 := Aside0.mk hB9; clear hP9 hB9; go_frame)
          go_ret
          rw [HBS.out] at HP9
          exact ⟨_, wI.heap.size, rfl, HBI.out.size, HP9.out, HBI.out.trans (HB9.out.mono HBI.out.size)⟩
def Bytes (l : List Int) : Prop := ∀ d ∈ l, 0 ≤ d ∧ d ≤ 255
theorem bytesOf_str (ys : List Int) (h : Bytes ys) : bytesOf (strOfNums ys) = ys := by
  unfold bytesOf
  rw [strOfNums_data, List.map_map]
  have e : ys.map ((fun b : UInt8 => (b.toNat : Int)) ∘ fun n => UInt8.ofNat n.toNat) = ys.map id := List.map_congr_left fun d hd => by
    have := h d hd
    simp
    omega
  rw [e, List.map_id]
theorem strOf_inj {a b : List Int} (ha : Bytes a) (hb : Bytes b) : (strOfNums a).toList = (strOfNums b).toList ↔ a = b := by
  constructor
  · intro h
    rw [ByteArray.toList_eq, ByteArray.toList_eq] at h
    rw [← bytesOf_str a ha, ← bytesOf_str b hb]
    unfold bytesOf
    rw [h]
  · rintro rfl; rfl
theorem rd_get {l : List S52} {i : Nat} (h : i < l.length) : rd_T52 l (i : Int) = l[i] := by
  unfold rd_T52
  simp [h]
theorem same_loop {a b : List S52} (ha : ∀ x ∈ a, Bytes x.f1) (hb : ∀ x ∈ b, Bytes x.f1) (hl : a.length = b.length) (hm : a.length ≤ 9223372036854775800) : ∀ (d i k : Nat), i + d = a.length → d < k → ∃ r, marginaliaref21_Same.l0 k a b (i : Int) = some r ∧ (r = true ↔ a.drop i = b.drop i) := by
  intro d
  induction d with
  | zero =>
    intro i k hi hk
    obtain ⟨k', rfl⟩ : ∃ k', k = k' + 1 := ⟨k - 1, by omega⟩
    refine ⟨true, ?_, ?_⟩
    · rw [marginaliaref21_Same.l0, if_neg (by omega)]
    · rw [List.drop_eq_nil_of_le (by omega), List.drop_eq_nil_of_le (by omega)]; simp
  | succ d ih =>
    intro i k hi hk
    obtain ⟨k', rfl⟩ : ∃ k', k = k' + 1 := ⟨k - 1, by omega⟩
    have h1 : i < a.length := by omega
    have h2 : i < b.length := by omega
    obtain ⟨r, hr, hiff⟩ := ih (i + 1) k' (by omega) (by omega)
    have hi1 := strOf_inj (ha _ (List.getElem_mem h1)) (hb _ (List.getElem_mem h2))
    rw [marginaliaref21_Same.l0, if_pos (by omega), if_pos (by omega), if_pos (by omega), rd_get h1, rd_get h2, List.drop_eq_getElem_cons h1, List.drop_eq_getElem_cons h2]
    by_cases c1 : a[i].f0 = b[i].f0
    · rw [if_pos c1]
      by_cases c2 : a[i].f1 = b[i].f1
      · rw [if_pos (hi1.2 c2), show wrap64 ((i : Int) + 1) = ((i + 1 : Nat) : Int) by unfold wrap64; omega]
        have e : a[i] = b[i] := by
          cases h : a[i]; cases h' : b[i]
          rw [h, h'] at c1 c2
          simp only at c1 c2
          rw [c1, c2]
        refine ⟨r, hr, ?_⟩
        rw [hiff, e]
        constructor
        · intro h; rw [h]
        · intro h; exact (List.cons.inj h).2
      · rw [if_neg (fun h => c2 (hi1.1 h))]
        refine ⟨false, rfl, ?_⟩
        simp only [Bool.false_eq_true, List.cons.injEq, false_iff, not_and]
        intro h
        exact absurd (by rw [h]) c2
    · rw [if_neg c1]
      refine ⟨false, rfl, ?_⟩
      simp only [Bool.false_eq_true, List.cons.injEq, false_iff, not_and]
      intro h
      exact absurd (by rw [h]) c1
theorem same_is {a b : List S52} (ha : ∀ x ∈ a, Bytes x.f1) (hb : ∀ x ∈ b, Bytes x.f1) (hm : a.length ≤ 9223372036854775800) : ∃ r, marginaliaref21_Same.f (a.length + 1) a b = some r ∧ (r = true ↔ a = b) := by
  unfold marginaliaref21_Same.f
  by_cases hl : a.length = b.length
  · rw [if_pos (by omega)]
    obtain ⟨r, hr, hi⟩ := same_loop ha hb hl hm a.length 0 (a.length + 1) (by omega) (by omega)
    exact ⟨r, hr, by simpa using hi⟩
  · rw [if_neg (by omega)]
    refine ⟨false, rfl, ?_⟩
    simp only [Bool.false_eq_true, false_iff]
    intro e
    exact hl (by rw [e])
theorem bytes_be8 (x : Int) : Bytes (be8 x) := fun d hd => be_byte 8 _ d hd
theorem bytes_text (s : ByteArray) : Bytes (bytesOf s) := fun d hd => by
  unfold bytesOf at hd
  obtain ⟨c, _, rfl⟩ := List.mem_map.1 hd
  have := c.toNat_lt
  omega
theorem bytes_app {a b : List Int} (ha : Bytes a) (hb : Bytes b) : Bytes (a ++ b) := fun d hd => by
  rcases List.mem_append.1 hd with h | h
  · exact ha d h
  · exact hb d h
theorem pairsS_bytes (L : LG) : ∀ x ∈ L.pairsS, Bytes x.f1 := by
  intro x hx
  unfold LG.pairsS at hx
  rcases List.mem_append.1 hx with h | h
  · rcases List.mem_append.1 h with h | h
    · obtain ⟨p, _, rfl⟩ := List.mem_map.1 h
      exact bytes_app (bytes_be8 _) (bytes_text _)
    · unfold polsS at h
      obtain ⟨j, _, rfl⟩ := List.mem_map.1 h
      exact bytes_text _
  · rw [List.mem_singleton.1 h]
    exact bytes_app (bytes_app (bytes_be8 _) (bytes_be8 _)) (bytes_be8 _)
theorem PRow.reads {w : World} {B : Nat} {u : Value} {ps : List S52} (h : PRow w B u ps) : ∃ A c, u = .slice A ps.length c ∧ ps.length ≤ c ∧ Kd.C k52 w A ps.length ps := by
  obtain ⟨A, c, e, hl, hC⟩ := Kd.N_reads h
  exact ⟨A, c, e, hl, hC.imp_ (Below.refl _ _) (fun _ _ hp => hp.1)⟩
def PTop (w : World) (B T : Nat) (u : Value) (ps : List S52) : Prop := Kd.N (kP B) 52 w B (fun k => B ≤ k ∧ k < T) u ps
theorem PRow.top {w : World} {B : Nat} {u : Value} {ps : List S52} (h : PRow w B u ps) : PTop w B w.heap.size u ps := Kd.N_bound h
theorem PTop.below {w w1 : World} {B T : Nat} {u : Value} {ps : List S52} (h : PTop w B T u ps) (hb : Below w.heap.size w w1) : PTop w1 B T u ps := Kd.N_below h hb
theorem PTop.mv {w w' : World} {B T : Nat} {u : Value} {ps : List S52} {S : Nat → Prop} (h : PTop w B T u ps) (m : Mv S w w') (hS : ∀ j, S j → j < B ∨ T ≤ j) : PTop w' B T u ps :=
  Kd.N_step h (fun k hk hlt => m.block k hlt (fun hs => by have := hS k hs; omega))
theorem PTop.reads {w : World} {B T : Nat} {u : Value} {ps : List S52} (h : PTop w B T u ps) : ∃ A c, u = .slice A ps.length c ∧ ps.length ≤ c ∧ Kd.C k52 w A ps.length ps := by
  obtain ⟨A, c, e, hl, hC⟩ := Kd.N_reads h
  exact ⟨A, c, e, hl, hC.imp_ (Below.refl _ _) (fun _ _ hp => hp.1)⟩
theorem same_calls {w : World} {B B' T T' : Nat} {u u' : Value} {ps ps' : List S52} (h : PTop w B T u ps) (h' : PTop w B' T' u' ps') (hb : ∀ x ∈ ps, Bytes x.f1) (hb' : ∀ x ∈ ps', Bytes x.f1) (hm : ps.length ≤ 3000000) :
    ∃ r : Bool, (r = true ↔ ps = ps') ∧ Calls Try.prog 12 #[u, u'] w fun e w' => e = .returned (.bool r) ∧ Drawn0 w w' := by
  obtain ⟨A, c, rfl, hl, hC⟩ := h.reads
  obtain ⟨A', c', rfl, hl', hC'⟩ := h'.reads
  obtain ⟨r, hr, hi⟩ := same_is hb hb' (by omega)
  exact ⟨r, hi, marginaliaref21_Same.calls _ A c ps A' c' ps' r w hC hl hC' hl' hr⟩
theorem drawn_below {w w' : World} (h : Drawn0 w w') : Below w.heap.size w w' := by
  obtain ⟨n, rfl⟩ := h.out
  exact pw_below_drewN (Below.refl _ _) n
end Go.Proofs.Ytjfkenjmjoncbaa.Lg

end

section
namespace Go.Proofs.Ytjfkenjmjoncbaa.Lg
open Go Go.Maps Go.WideShapes Go.RowKit Go.Proofs.Ytjfkenjmjoncbaa.PAll Go.Proofs.YtjfkenjmjoncbaaW.PrintWords Go.Proofs.YtjfkenjmjoncbaaW.PrintLast Go.Proofs.YtjfkenjmjoncbaaW.PrintMore

theorem foldl_val : ∀ (ds : List Int) (a : Nat), ds.foldl (fun a d => a * 256 + d.toNat) a = a * 256 ^ ds.length + valN ds
  | [], a => by simp [valN]
  | d :: ds, a => by
    unfold valN
    rw [List.foldl_cons, List.foldl_cons, foldl_val ds, foldl_val ds, List.length_cons, Nat.pow_succ, Nat.zero_mul, Nat.zero_add, Nat.add_mul, Nat.mul_assoc, Nat.mul_comm 256, Nat.add_assoc]
theorem valN_cons (d : Int) (ds : List Int) : valN (d :: ds) = d.toNat * 256 ^ ds.length + valN ds := by
  show List.foldl _ _ _ = _
  rw [List.foldl_cons, foldl_val, Nat.zero_mul, Nat.zero_add]
theorem valN_lt : ∀ (ds : List Int), Bytes ds → valN ds < 256 ^ ds.length
  | [], _ => by simp [valN]
  | d :: ds, h => by
    rw [valN_cons, List.length_cons, Nat.pow_succ]
    have h1 := valN_lt ds (fun x hx => h x (List.mem_cons_of_mem _ hx))
    have h2 := h d (List.mem_cons_self ..)
    have h3 : d.toNat ≤ 255 := by omega
    have h4 : d.toNat * 256 ^ ds.length ≤ 255 * 256 ^ ds.length := Nat.mul_le_mul_right _ h3
    omega
theorem wrap_small {n : Int} (h0 : -9223372036854775808 ≤ n) (h1 : n ≤ 9223372036854775807) : wrap64 n = n := by
  unfold wrap64
  omega
theorem u64_small {n : Int} (h0 : 0 ≤ n) (h1 : n < 18446744073709551616) : IntKind.u64.wrap n = n := by
  rw [IntKind.wrap_u64]
  omega
theorem or_be (a d : Nat) (ha : a < 72057594037927936) (hd : d < 256) : Go.bits .or .u64 (IntKind.u64.wrap ((a : Int) * 256)) (IntKind.u64.wrap (d : Int)) = ((a * 256 + d : Nat) : Int) := by
  rw [u64_small (by omega) (by omega), u64_small (by omega) (by omega)]
  rw [show (a : Int) * 256 = ((a * 256 : Nat) : Int) by omega, bits_or_u64_nat _ _ (by omega) (by omega)]
  congr 1
  have := Nat.shiftLeft_add_eq_or_of_lt (b := d) (i := 8) (by omega) a
  rw [Nat.shiftLeft_eq, show (2 : Nat) ^ 8 = 256 from rfl] at this
  exact this.symm
theorem rd_at (xs : List Int) (i : Nat) (h : i < xs.length) : rd xs (i : Int) = xs[i] := by
  simp [rd, List.getD_eq_getElem?_getD, h]
theorem num_l0 (xs : List Int) (hb : Bytes xs) (h8 : xs.length ≤ 8) : ∀ (d i k a : Nat), i + d = xs.length → d < k → a = valN (xs.take i) →
    ledger_number.l0 k (a : Int) xs (xs.length : Int) (i : Int) = some ((valN xs : Nat) : Int) := by
  intro d
  induction d with
  | zero =>
    intro i k a hi hk ha
    obtain ⟨k, rfl⟩ : ∃ m, k = m + 1 := ⟨k - 1, by omega⟩
    simp only [ledger_number.l0]
    rw [if_neg (by omega), ha, List.take_of_length_le (by omega)]
  | succ d ih =>
    intro i k a hi hk ha
    obtain ⟨k, rfl⟩ : ∃ m, k = m + 1 := ⟨k - 1, by omega⟩
    have hlt : i < xs.length := by omega
    have hx := hb xs[i] (List.getElem_mem hlt)
    have hal : a < 256 ^ i := by
      have := valN_lt (xs.take i) (fun y hy => hb y (List.mem_of_mem_take hy))
      rw [List.length_take, Nat.min_eq_left (by omega)] at this
      omega
    have ha7 : a < 72057594037927936 := Nat.lt_of_lt_of_le hal (by have := Nat.pow_le_pow_right (n := 256) (by omega) (show i ≤ 7 by omega); simpa using this)
    simp only [ledger_number.l0]
    rw [if_pos (by omega), if_pos (by omega), if_pos (by omega), rd_at xs i hlt]
    obtain ⟨c, hc⟩ : ∃ c : Nat, xs[i] = (c : Int) := ⟨xs[i].toNat, by omega⟩
    rw [hc, or_be a c ha7 (by omega), wrap_small (by omega) (by omega), show (i : Int) + 1 = ((i + 1 : Nat) : Int) by omega]
    refine ih (i + 1) k _ (by omega) (by omega) ?_
    rw [List.take_add_one, List.getElem?_eq_getElem hlt, hc, Option.toList_some]
    unfold valN
    rw [List.foldl_append, List.foldl_cons, List.foldl_nil, Int.toNat_natCast]
    rw [ha]
    rfl
theorem num_is (xs : List Int) (hb : Bytes xs) (h8 : xs.length ≤ 8) (k : Nat) (hk : xs.length < k) : ledger_number.f k xs = some ((valN xs : Nat) : Int) := by
  unfold ledger_number.f
  exact num_l0 xs hb h8 xs.length 0 k 0 (by omega) hk rfl
theorem num64 {xs : List Int} (hb : Bytes xs) (h8 : xs.length ≤ 8) : 0 ≤ ((valN xs : Nat) : Int) ∧ ((valN xs : Nat) : Int) ≤ 18446744073709551615 := by
  have h1 := valN_lt xs hb
  have h2 := Nat.pow_le_pow_right (n := 256) (by omega) h8
  have h3 : (256 : Nat) ^ 8 = 18446744073709551616 := by decide
  omega
theorem bytes_take {l : List Int} (h : Bytes l) (n : Nat) : Bytes (l.take n) := fun d hd => h d (List.mem_of_mem_take hd)
theorem bytes_drop {l : List Int} (h : Bytes l) (n : Nat) : Bytes (l.drop n) := fun d hd => h d (List.mem_of_mem_drop hd)
end Go.Proofs.Ytjfkenjmjoncbaa.Lg

end

section
namespace Go.Proofs.Ytjfkenjmjoncbaa.Lg
open Go Go.Maps Go.WideShapes Go.RowKit Go.Proofs.Ytjfkenjmjoncbaa.PAll Go.Proofs.YtjfkenjmjoncbaaW.PrintWords Go.Proofs.YtjfkenjmjoncbaaW.PrintLast Go.Proofs.YtjfkenjmjoncbaaW.PrintMore
set_option linter.unusedVariables false
set_option linter.unusedSimpArgs false

def verOf (bs : List Int) : Int := ((valN (bs.take 8) : Nat) : Int)
def ldOk (L : LG) (k : Int) (bs : List Int) (nw : Int) : Bool :=
  if 9223372036854775808 ≤ k then decide (k = 9223372036854775808 + L.newest + 1) && decide (L.newest ≠ nw) && decide (bs.length ≤ 2000)
  else decide (k ≠ 0) && decide (k < L.next) && decide (8 ≤ bs.length) && decide (bs.length ≤ 4104) && (decide (0 < verOf bs) && decide (verOf bs ≤ nw) && (decide (L.cur < k) || decide (verOf bs = nw)))
def ldL (L : LG) (k : Int) (bs : List Int) : LG :=
  if 9223372036854775808 ≤ k then ⟨L.posts, L.pols ++ [strOfNums bs], L.next, L.cur⟩ else ⟨setP L.posts ⟨k, verOf bs, strOfNums (bs.drop 8)⟩, L.pols, L.next, L.cur⟩
theorem str_size (bs : List Int) : (strOfNums bs).size = bs.length := strOfNums_size bs
structure Ldd (w w' : World) (B g b n : Nat) (v : Value) (L : LG) (k : Int) (bs : List Int) (nw : Int) : Prop where
  mv : Mv (Owns g b v) w w'
  did : ldOk L k bs nw = true → Did w w' B g b (n + 1) v (ldL L k bs)
theorem Ldd.no {w w' : World} {B g b n : Nat} {v : Value} {L : LG} {k : Int} {bs : List Int} {nw : Int} (h : Below w.heap.size w w') (ho : ldOk L k bs nw = false) : Ldd w w' B g b n v L k bs nw := ⟨.of_below h, fun e => by rw [ho] at e; cases e⟩
theorem ldL_ok {L : LG} (h : L.Ok) {k : Int} {bs : List Int} {nw : Int} (hk : 0 ≤ k ∧ k ≤ 18446744073709551615) (hb : Bytes bs) (hn : L.newest ≤ nw) (h100 : nw ≤ 100) (ho : ldOk L k bs nw = true) : (ldL L k bs).Ok := by
  unfold ldOk at ho
  unfold ldL
  split at ho
  · next hi =>
    rw [if_pos hi]
    simp only [Bool.and_eq_true, decide_eq_true_eq] at ho
    have hnn : L.newest = (L.pols.length : Int) := rfl
    refine ⟨h.rise, h.ids, h.vers, h.next, h.cur, by rw [List.length_append, List.length_singleton]; omega, h.texts, fun s hs => ?_⟩
    rcases List.mem_append.1 hs with q | q
    · exact h.ptexts s q
    · rw [List.mem_singleton.1 q, str_size]; exact ho.2
  · next hi =>
    rw [if_neg hi]
    simp only [Bool.and_eq_true, decide_eq_true_eq] at ho
    have hv := num64 (bytes_take hb 8) (List.length_take_le 8 bs)
    refine ⟨setP_rise h.rise _, fun p hp => ?_, fun p hp => ?_, h.next, h.cur, h.pols, fun p hp => ?_, h.ptexts⟩
    all_goals rcases mem_setP.1 hp with rfl | ⟨q, _⟩
    · simp only; omega
    · exact h.ids p q
    · exact hv
    · exact h.vers p q
    · simp only [str_size, List.length_drop]; omega
    · exact h.texts p q
set_option maxHeartbeats 4000000 in
set_option maxRecDepth 100000 in
theorem load_hi1 {w : World} {B g b n : Nat} {v : Value} {L : LG} (h : Led w B g b n v L) (hB : B ≤ w.heap.size) (hn : n < maxLen) {k : Int} {A : Option Addr} {c : Nat} {bs : List Int} {nw : Int} (hk : 0 ≤ k ∧ k ≤ 18446744073709551615) (hC : (Kd.int .u8).C w A bs.length bs) (hc : bs.length ≤ c) (hb : Bytes bs) (hnw : L.newest ≤ nw) (h100 : nw ≤ 100) (hi : 9223372036854775808 ≤ k) (hx : k ≠ 9223372036854775808 + L.newest + 1) :
    Calls Try.prog 30 #[.pointer (some ⟨g, 0, none⟩), .agg #[.int .u64 k, .slice A bs.length c], .int .u64 nw] w fun e w' => e = .returned (.bool (ldOk L k bs nw)) ∧ Ldd w w' B g b n v L k bs nw := by
  have HOF : Aside0 (ldOk L k bs nw = false) := ⟨by unfold ldOk; rw [if_pos hi, show decide (k = 9223372036854775808 + L.newest + 1) = false from decide_eq_false hx]; rfl⟩
  have HH := Aside0.mk h
  have HN := Aside0.mk hn
  have HBB := Aside0.mk hB
  have HK := Aside0.mk hk
  have HC := Aside0.mk hC
  have HCC := Aside0.mk hc
  have HBY := Aside0.mk hb
  have HPO := Aside0.mk h.ok.pols
  obtain ⟨K1, hK1⟩ : ∃ K1, K1 = 9223372036854775808 + L.newest := ⟨_, rfl⟩
  obtain ⟨K2, hK2⟩ : ∃ K2, K2 = K1 + 1 := ⟨_, rfl⟩
  have hw2 : IntKind.u64.wrap (9223372036854775808 + L.newest) = K1 := by have := HPO.out; rw [hK1]; simp [IntKind.wrap, IntKind.bits, IntKind.signed, LG.newest]; omega
  have hw3 : IntKind.u64.wrap (K1 + 1) = K2 := by have := HPO.out; rw [hK2, hK1]; simp [IntKind.wrap, IntKind.bits, IntKind.signed, LG.newest]; omega
  have HK2 := Aside0.mk (show K2 = 9223372036854775808 + L.newest + 1 by rw [hK2, hK1])
  clear h hn hB hk hC hc hb hK1 hK2
  have e0 : decide (9223372036854775808 ≤ k) = true := decide_eq_true hi
  have e1 : (k != K2) = true := bne_iff_ne.2 (by rw [HK2.out]; exact hx)
  clear hi hx
  go_enter Try.func30, Try.ntmps30
  go_wp2_with (first
    | ((with_reducible refine gate_dst (N := 4) rfl ?_); refine box_event ?hg (N := 4) ?hd (cs := #[.int .u64 k, .slice A bs.length c]) (t := 52) ?hr ?_; (case hd => rfl); (case hg => rfl); (case hr => first | (go_simp; done) | (go_simp; rfl)); intro gb hg w3 hbox hb; have HB3 := Aside0.mk hb; have BK3 := Aside0.mk hbox; have HGB := Aside0.mk (show w.heap.size ≤ gb by rw [hg]; exact Nat.le_refl _); have c0 : w3.cell? ⟨gb, 0, none⟩ = some (.int .u64 k) := (blk_cell hbox 0).trans rfl; have c1 : w3.cell? ⟨gb, 1, none⟩ = some (.slice A bs.length c) := (blk_cell hbox 1).trans rfl; have HL3 := Aside0.mk (HH.out.below hb); obtain ⟨⟨h0, h1, h2, h3⟩, hf⟩ := HL3.out.cells; have HNW := Aside0.mk (fun m => newest_calls (HL3.out.below (pw_below_drewN (Below.refl _ _) m))); have HC3 := Aside0.mk (Kd.C_below HC.out hb); clear hg hbox hb))
  go_quiet ((go_at_call 26; refine Calls.quiet_of_same (HNW.out _)))
  go_wp2
  go_ret
  exact ⟨by rw [HOF.out]; rfl, Ldd.no (pw_below_drewN HB3.out _) HOF.out⟩
set_option maxHeartbeats 4000000 in
set_option maxRecDepth 100000 in
theorem load_hi2 {w : World} {B g b n : Nat} {v : Value} {L : LG} (h : Led w B g b n v L) (hB : B ≤ w.heap.size) (hn : n < maxLen) {k : Int} {A : Option Addr} {c : Nat} {bs : List Int} {nw : Int} (hk : 0 ≤ k ∧ k ≤ 18446744073709551615) (hC : (Kd.int .u8).C w A bs.length bs) (hc : bs.length ≤ c) (hb : Bytes bs) (hnw : L.newest ≤ nw) (h100 : nw ≤ 100) (hi : 9223372036854775808 ≤ k) (hx : k = 9223372036854775808 + L.newest + 1) (hy : L.newest = nw) :
    Calls Try.prog 30 #[.pointer (some ⟨g, 0, none⟩), .agg #[.int .u64 k, .slice A bs.length c], .int .u64 nw] w fun e w' => e = .returned (.bool (ldOk L k bs nw)) ∧ Ldd w w' B g b n v L k bs nw := by
  have HOF : Aside0 (ldOk L k bs nw = false) := ⟨by unfold ldOk; rw [if_pos hi, show decide (L.newest ≠ nw) = false from decide_eq_false (fun q => q hy), Bool.and_false, Bool.false_and]⟩
  have HH := Aside0.mk h
  have HN := Aside0.mk hn
  have HBB := Aside0.mk hB
  have HK := Aside0.mk hk
  have HC := Aside0.mk hC
  have HCC := Aside0.mk hc
  have HBY := Aside0.mk hb
  have HPO := Aside0.mk h.ok.pols
  obtain ⟨K1, hK1⟩ : ∃ K1, K1 = 9223372036854775808 + L.newest := ⟨_, rfl⟩
  obtain ⟨K2, hK2⟩ : ∃ K2, K2 = K1 + 1 := ⟨_, rfl⟩
  have hw2 : IntKind.u64.wrap (9223372036854775808 + L.newest) = K1 := by have := HPO.out; rw [hK1]; simp [IntKind.wrap, IntKind.bits, IntKind.signed, LG.newest]; omega
  have hw3 : IntKind.u64.wrap (K1 + 1) = K2 := by have := HPO.out; rw [hK2, hK1]; simp [IntKind.wrap, IntKind.bits, IntKind.signed, LG.newest]; omega
  have HK2 := Aside0.mk (show K2 = 9223372036854775808 + L.newest + 1 by rw [hK2, hK1])
  clear h hn hB hk hC hc hb hK1 hK2
  have e0 : decide (9223372036854775808 ≤ k) = true := decide_eq_true hi
  have e1 : (k != K2) = false := bne_eq_false_iff_eq.2 (by rw [HK2.out]; exact hx)
  have e2 : (L.newest == nw) = true := beq_iff_eq.2 hy
  clear hi hx hy hnw h100
  go_enter Try.func30, Try.ntmps30
  go_wp2_with (first
    | ((with_reducible refine gate_dst (N := 4) rfl ?_); refine box_event ?hg (N := 4) ?hd (cs := #[.int .u64 k, .slice A bs.length c]) (t := 52) ?hr ?_; (case hd => rfl); (case hg => rfl); (case hr => first | (go_simp; done) | (go_simp; rfl)); intro gb hg w3 hbox hb; have HB3 := Aside0.mk hb; have BK3 := Aside0.mk hbox; have HGB := Aside0.mk (show w.heap.size ≤ gb by rw [hg]; exact Nat.le_refl _); have c0 : w3.cell? ⟨gb, 0, none⟩ = some (.int .u64 k) := (blk_cell hbox 0).trans rfl; have c1 : w3.cell? ⟨gb, 1, none⟩ = some (.slice A bs.length c) := (blk_cell hbox 1).trans rfl; have HL3 := Aside0.mk (HH.out.below hb); obtain ⟨⟨h0, h1, h2, h3⟩, hf⟩ := HL3.out.cells; have HNW := Aside0.mk (fun m => newest_calls (HL3.out.below (pw_below_drewN (Below.refl _ _) m))); have HC3 := Aside0.mk (Kd.C_below HC.out hb); clear hg hbox hb))
  go_quiet ((go_at_call 26; refine Calls.quiet_of_same (HNW.out _)))
  go_wp2
  go_ret
  exact ⟨by rw [HOF.out]; rfl, Ldd.no (pw_below_drewN HB3.out _) HOF.out⟩
set_option maxHeartbeats 4000000 in
set_option maxRecDepth 100000 in
theorem load_hi3 {w : World} {B g b n : Nat} {v : Value} {L : LG} (h : Led w B g b n v L) (hB : B ≤ w.heap.size) (hn : n < maxLen) {k : Int} {A : Option Addr} {c : Nat} {bs : List Int} {nw : Int} (hk : 0 ≤ k ∧ k ≤ 18446744073709551615) (hC : (Kd.int .u8).C w A bs.length bs) (hc : bs.length ≤ c) (hb : Bytes bs) (hnw : L.newest ≤ nw) (h100 : nw ≤ 100) (hi : 9223372036854775808 ≤ k) (hx : k = 9223372036854775808 + L.newest + 1) (hy : L.newest ≠ nw) (hz : ¬ bs.length ≤ 2000) :
    Calls Try.prog 30 #[.pointer (some ⟨g, 0, none⟩), .agg #[.int .u64 k, .slice A bs.length c], .int .u64 nw] w fun e w' => e = .returned (.bool (ldOk L k bs nw)) ∧ Ldd w w' B g b n v L k bs nw := by
  have HOF : Aside0 (ldOk L k bs nw = false) := ⟨by unfold ldOk; rw [if_pos hi, show decide (bs.length ≤ 2000) = false from decide_eq_false hz, Bool.and_false]⟩
  have HH := Aside0.mk h
  have HN := Aside0.mk hn
  have HBB := Aside0.mk hB
  have HK := Aside0.mk hk
  have HC := Aside0.mk hC
  have HCC := Aside0.mk hc
  have HBY := Aside0.mk hb
  have HPO := Aside0.mk h.ok.pols
  obtain ⟨K1, hK1⟩ : ∃ K1, K1 = 9223372036854775808 + L.newest := ⟨_, rfl⟩
  obtain ⟨K2, hK2⟩ : ∃ K2, K2 = K1 + 1 := ⟨_, rfl⟩
  have hw2 : IntKind.u64.wrap (9223372036854775808 + L.newest) = K1 := by have := HPO.out; rw [hK1]; simp [IntKind.wrap, IntKind.bits, IntKind.signed, LG.newest]; omega
  have hw3 : IntKind.u64.wrap (K1 + 1) = K2 := by have := HPO.out; rw [hK2, hK1]; simp [IntKind.wrap, IntKind.bits, IntKind.signed, LG.newest]; omega
  have HK2 := Aside0.mk (show K2 = 9223372036854775808 + L.newest + 1 by rw [hK2, hK1])
  clear h hn hB hk hC hc hb hK1 hK2
  have e0 : decide (9223372036854775808 ≤ k) = true := decide_eq_true hi
  have e1 : (k != K2) = false := bne_eq_false_iff_eq.2 (by rw [HK2.out]; exact hx)
  have e2 : (L.newest == nw) = false := beq_eq_false_iff_ne.2 hy
  have e3 : decide (2000 < (bs.length : Int)) = true := decide_eq_true (by omega)
  clear hi hx hy hz hnw h100
  go_enter Try.func30, Try.ntmps30
  go_wp2_with (first
    | ((with_reducible refine gate_dst (N := 4) rfl ?_); refine box_event ?hg (N := 4) ?hd (cs := #[.int .u64 k, .slice A bs.length c]) (t := 52) ?hr ?_; (case hd => rfl); (case hg => rfl); (case hr => first | (go_simp; done) | (go_simp; rfl)); intro gb hg w3 hbox hb; have HB3 := Aside0.mk hb; have BK3 := Aside0.mk hbox; have HGB := Aside0.mk (show w.heap.size ≤ gb by rw [hg]; exact Nat.le_refl _); have c0 : w3.cell? ⟨gb, 0, none⟩ = some (.int .u64 k) := (blk_cell hbox 0).trans rfl; have c1 : w3.cell? ⟨gb, 1, none⟩ = some (.slice A bs.length c) := (blk_cell hbox 1).trans rfl; have HL3 := Aside0.mk (HH.out.below hb); obtain ⟨⟨h0, h1, h2, h3⟩, hf⟩ := HL3.out.cells; have HNW := Aside0.mk (fun m => newest_calls (HL3.out.below (pw_below_drewN (Below.refl _ _) m))); have HC3 := Aside0.mk (Kd.C_below HC.out hb); clear hg hbox hb))
  go_quiet ((go_at_call 26; refine Calls.quiet_of_same (HNW.out _)))
  go_wp2
  go_ret
  exact ⟨by rw [HOF.out]; rfl, Ldd.no (pw_below_drewN HB3.out _) HOF.out⟩
set_option maxHeartbeats 4000000 in
set_option maxRecDepth 100000 in
theorem load_lo1 {w : World} {B g b n : Nat} {v : Value} {L : LG} (h : Led w B g b n v L) (hB : B ≤ w.heap.size) (hn : n < maxLen) {k : Int} {A : Option Addr} {c : Nat} {bs : List Int} {nw : Int} (hk : 0 ≤ k ∧ k ≤ 18446744073709551615) (hC : (Kd.int .u8).C w A bs.length bs) (hc : bs.length ≤ c) (hb : Bytes bs) (hnw : L.newest ≤ nw) (h100 : nw ≤ 100) (hi : ¬ 9223372036854775808 ≤ k) (hx : k = 0) :
    Calls Try.prog 30 #[.pointer (some ⟨g, 0, none⟩), .agg #[.int .u64 k, .slice A bs.length c], .int .u64 nw] w fun e w' => e = .returned (.bool (ldOk L k bs nw)) ∧ Ldd w w' B g b n v L k bs nw := by
  have HOF : Aside0 (ldOk L k bs nw = false) := ⟨by unfold ldOk; rw [if_neg hi, show decide (k ≠ 0) = false from decide_eq_false (fun q => q hx)]; rfl⟩
  have HH := Aside0.mk h
  have HN := Aside0.mk hn
  have HBB := Aside0.mk hB
  have HK := Aside0.mk hk
  have HC := Aside0.mk hC
  have HCC := Aside0.mk hc
  have HBY := Aside0.mk hb
  have HPO := Aside0.mk h.ok.pols
  obtain ⟨K1, hK1⟩ : ∃ K1, K1 = 9223372036854775808 + L.newest := ⟨_, rfl⟩
  obtain ⟨K2, hK2⟩ : ∃ K2, K2 = K1 + 1 := ⟨_, rfl⟩
  have hw2 : IntKind.u64.wrap (9223372036854775808 + L.newest) = K1 := by have := HPO.out; rw [hK1]; simp [IntKind.wrap, IntKind.bits, IntKind.signed, LG.newest]; omega
  have hw3 : IntKind.u64.wrap (K1 + 1) = K2 := by have := HPO.out; rw [hK2, hK1]; simp [IntKind.wrap, IntKind.bits, IntKind.signed, LG.newest]; omega
  have HK2 := Aside0.mk (show K2 = 9223372036854775808 + L.newest + 1 by rw [hK2, hK1])
  clear h hn hB hk hC hc hb hK1 hK2
  have e0 : decide (9223372036854775808 ≤ k) = false := decide_eq_false hi
  have e1 : (k == 0) = true := beq_iff_eq.2 hx
  clear hi hnw h100 hx
  go_enter Try.func30, Try.ntmps30
  go_wp2_with (first
    | ((with_reducible refine gate_dst (N := 4) rfl ?_); refine box_event ?hg (N := 4) ?hd (cs := #[.int .u64 k, .slice A bs.length c]) (t := 52) ?hr ?_; (case hd => rfl); (case hg => rfl); (case hr => first | (go_simp; done) | (go_simp; rfl)); intro gb hg w3 hbox hb; have HB3 := Aside0.mk hb; have BK3 := Aside0.mk hbox; have HGB := Aside0.mk (show w.heap.size ≤ gb by rw [hg]; exact Nat.le_refl _); have c0 : w3.cell? ⟨gb, 0, none⟩ = some (.int .u64 k) := (blk_cell hbox 0).trans rfl; have c1 : w3.cell? ⟨gb, 1, none⟩ = some (.slice A bs.length c) := (blk_cell hbox 1).trans rfl; have HL3 := Aside0.mk (HH.out.below hb); obtain ⟨⟨h0, h1, h2, h3⟩, hf⟩ := HL3.out.cells; have HNW := Aside0.mk (fun m => newest_calls (HL3.out.below (pw_below_drewN (Below.refl _ _) m))); have HC3 := Aside0.mk (Kd.C_below HC.out hb); clear hg hbox hb))
  go_quiet (fail)
  go_wp2
  go_ret
  exact ⟨by rw [HOF.out]; rfl, Ldd.no (pw_below_drewN HB3.out _) HOF.out⟩
set_option maxHeartbeats 4000000 in
set_option maxRecDepth 100000 in
theorem load_lo2 {w : World} {B g b n : Nat} {v : Value} {L : LG} (h : Led w B g b n v L) (hB : B ≤ w.heap.size) (hn : n < maxLen) {k : Int} {A : Option Addr} {c : Nat} {bs : List Int} {nw : Int} (hk : 0 ≤ k ∧ k ≤ 18446744073709551615) (hC : (Kd.int .u8).C w A bs.length bs) (hc : bs.length ≤ c) (hb : Bytes bs) (hnw : L.newest ≤ nw) (h100 : nw ≤ 100) (hi : ¬ 9223372036854775808 ≤ k) (hx : k ≠ 0) (hy : ¬ k < L.next) :
    Calls Try.prog 30 #[.pointer (some ⟨g, 0, none⟩), .agg #[.int .u64 k, .slice A bs.length c], .int .u64 nw] w fun e w' => e = .returned (.bool (ldOk L k bs nw)) ∧ Ldd w w' B g b n v L k bs nw := by
  have HOF : Aside0 (ldOk L k bs nw = false) := ⟨by unfold ldOk; rw [if_neg hi, show decide (k < L.next) = false from decide_eq_false hy, Bool.and_false]; rfl⟩
  have HH := Aside0.mk h
  have HN := Aside0.mk hn
  have HBB := Aside0.mk hB
  have HK := Aside0.mk hk
  have HC := Aside0.mk hC
  have HCC := Aside0.mk hc
  have HBY := Aside0.mk hb
  have HPO := Aside0.mk h.ok.pols
  obtain ⟨K1, hK1⟩ : ∃ K1, K1 = 9223372036854775808 + L.newest := ⟨_, rfl⟩
  obtain ⟨K2, hK2⟩ : ∃ K2, K2 = K1 + 1 := ⟨_, rfl⟩
  have hw2 : IntKind.u64.wrap (9223372036854775808 + L.newest) = K1 := by have := HPO.out; rw [hK1]; simp [IntKind.wrap, IntKind.bits, IntKind.signed, LG.newest]; omega
  have hw3 : IntKind.u64.wrap (K1 + 1) = K2 := by have := HPO.out; rw [hK2, hK1]; simp [IntKind.wrap, IntKind.bits, IntKind.signed, LG.newest]; omega
  have HK2 := Aside0.mk (show K2 = 9223372036854775808 + L.newest + 1 by rw [hK2, hK1])
  clear h hn hB hk hC hc hb hK1 hK2
  have e0 : decide (9223372036854775808 ≤ k) = false := decide_eq_false hi
  have e1 : (k == 0) = false := beq_eq_false_iff_ne.2 hx
  have e2 : decide (L.next ≤ k) = true := decide_eq_true (by omega)
  clear hi hnw h100 hx hy
  go_enter Try.func30, Try.ntmps30
  go_wp2_with (first
    | ((with_reducible refine gate_dst (N := 4) rfl ?_); refine box_event ?hg (N := 4) ?hd (cs := #[.int .u64 k, .slice A bs.length c]) (t := 52) ?hr ?_; (case hd => rfl); (case hg => rfl); (case hr => first | (go_simp; done) | (go_simp; rfl)); intro gb hg w3 hbox hb; have HB3 := Aside0.mk hb; have BK3 := Aside0.mk hbox; have HGB := Aside0.mk (show w.heap.size ≤ gb by rw [hg]; exact Nat.le_refl _); have c0 : w3.cell? ⟨gb, 0, none⟩ = some (.int .u64 k) := (blk_cell hbox 0).trans rfl; have c1 : w3.cell? ⟨gb, 1, none⟩ = some (.slice A bs.length c) := (blk_cell hbox 1).trans rfl; have HL3 := Aside0.mk (HH.out.below hb); obtain ⟨⟨h0, h1, h2, h3⟩, hf⟩ := HL3.out.cells; have HNW := Aside0.mk (fun m => newest_calls (HL3.out.below (pw_below_drewN (Below.refl _ _) m))); have HC3 := Aside0.mk (Kd.C_below HC.out hb); clear hg hbox hb))
  go_quiet (fail)
  go_wp2
  go_ret
  exact ⟨by rw [HOF.out]; rfl, Ldd.no (pw_below_drewN HB3.out _) HOF.out⟩
set_option maxHeartbeats 4000000 in
set_option maxRecDepth 100000 in
theorem load_lo3 {w : World} {B g b n : Nat} {v : Value} {L : LG} (h : Led w B g b n v L) (hB : B ≤ w.heap.size) (hn : n < maxLen) {k : Int} {A : Option Addr} {c : Nat} {bs : List Int} {nw : Int} (hk : 0 ≤ k ∧ k ≤ 18446744073709551615) (hC : (Kd.int .u8).C w A bs.length bs) (hc : bs.length ≤ c) (hb : Bytes bs) (hnw : L.newest ≤ nw) (h100 : nw ≤ 100) (hi : ¬ 9223372036854775808 ≤ k) (hx : k ≠ 0) (hy : k < L.next) (hz : ¬ 8 ≤ bs.length) :
    Calls Try.prog 30 #[.pointer (some ⟨g, 0, none⟩), .agg #[.int .u64 k, .slice A bs.length c], .int .u64 nw] w fun e w' => e = .returned (.bool (ldOk L k bs nw)) ∧ Ldd w w' B g b n v L k bs nw := by
  have HOF : Aside0 (ldOk L k bs nw = false) := ⟨by unfold ldOk; rw [if_neg hi, show decide (8 ≤ bs.length) = false from decide_eq_false hz, Bool.and_false]; rfl⟩
  have HH := Aside0.mk h
  have HN := Aside0.mk hn
  have HBB := Aside0.mk hB
  have HK := Aside0.mk hk
  have HC := Aside0.mk hC
  have HCC := Aside0.mk hc
  have HBY := Aside0.mk hb
  have HPO := Aside0.mk h.ok.pols
  obtain ⟨K1, hK1⟩ : ∃ K1, K1 = 9223372036854775808 + L.newest := ⟨_, rfl⟩
  obtain ⟨K2, hK2⟩ : ∃ K2, K2 = K1 + 1 := ⟨_, rfl⟩
  have hw2 : IntKind.u64.wrap (9223372036854775808 + L.newest) = K1 := by have := HPO.out; rw [hK1]; simp [IntKind.wrap, IntKind.bits, IntKind.signed, LG.newest]; omega
  have hw3 : IntKind.u64.wrap (K1 + 1) = K2 := by have := HPO.out; rw [hK2, hK1]; simp [IntKind.wrap, IntKind.bits, IntKind.signed, LG.newest]; omega
  have HK2 := Aside0.mk (show K2 = 9223372036854775808 + L.newest + 1 by rw [hK2, hK1])
  clear h hn hB hk hC hc hb hK1 hK2
  have e0 : decide (9223372036854775808 ≤ k) = false := decide_eq_false hi
  have e1 : (k == 0) = false := beq_eq_false_iff_ne.2 hx
  have e2 : decide (L.next ≤ k) = false := decide_eq_false (by omega)
  have e3 : decide ((bs.length : Int) < 8) = true := decide_eq_true (by omega)
  clear hi hnw h100 hx hy hz
  go_enter Try.func30, Try.ntmps30
  go_wp2_with (first
    | ((with_reducible refine gate_dst (N := 4) rfl ?_); refine box_event ?hg (N := 4) ?hd (cs := #[.int .u64 k, .slice A bs.length c]) (t := 52) ?hr ?_; (case hd => rfl); (case hg => rfl); (case hr => first | (go_simp; done) | (go_simp; rfl)); intro gb hg w3 hbox hb; have HB3 := Aside0.mk hb; have BK3 := Aside0.mk hbox; have HGB := Aside0.mk (show w.heap.size ≤ gb by rw [hg]; exact Nat.le_refl _); have c0 : w3.cell? ⟨gb, 0, none⟩ = some (.int .u64 k) := (blk_cell hbox 0).trans rfl; have c1 : w3.cell? ⟨gb, 1, none⟩ = some (.slice A bs.length c) := (blk_cell hbox 1).trans rfl; have HL3 := Aside0.mk (HH.out.below hb); obtain ⟨⟨h0, h1, h2, h3⟩, hf⟩ := HL3.out.cells; have HNW := Aside0.mk (fun m => newest_calls (HL3.out.below (pw_below_drewN (Below.refl _ _) m))); have HC3 := Aside0.mk (Kd.C_below HC.out hb); clear hg hbox hb))
  go_quiet (fail)
  go_wp2
  go_ret
  exact ⟨by rw [HOF.out]; rfl, Ldd.no (pw_below_drewN HB3.out _) HOF.out⟩
set_option maxHeartbeats 4000000 in
set_option maxRecDepth 100000 in
theorem load_lo4 {w : World} {B g b n : Nat} {v : Value} {L : LG} (h : Led w B g b n v L) (hB : B ≤ w.heap.size) (hn : n < maxLen) {k : Int} {A : Option Addr} {c : Nat} {bs : List Int} {nw : Int} (hk : 0 ≤ k ∧ k ≤ 18446744073709551615) (hC : (Kd.int .u8).C w A bs.length bs) (hc : bs.length ≤ c) (hb : Bytes bs) (hnw : L.newest ≤ nw) (h100 : nw ≤ 100) (hi : ¬ 9223372036854775808 ≤ k) (hx : k ≠ 0) (hy : k < L.next) (hz : 8 ≤ bs.length) (hu : ¬ bs.length ≤ 4104) :
    Calls Try.prog 30 #[.pointer (some ⟨g, 0, none⟩), .agg #[.int .u64 k, .slice A bs.length c], .int .u64 nw] w fun e w' => e = .returned (.bool (ldOk L k bs nw)) ∧ Ldd w w' B g b n v L k bs nw := by
  have HOF : Aside0 (ldOk L k bs nw = false) := ⟨by unfold ldOk; rw [if_neg hi, show decide (bs.length ≤ 4104) = false from decide_eq_false hu, Bool.and_false, Bool.false_and]⟩
  have HH := Aside0.mk h
  have HN := Aside0.mk hn
  have HBB := Aside0.mk hB
  have HK := Aside0.mk hk
  have HC := Aside0.mk hC
  have HCC := Aside0.mk hc
  have HBY := Aside0.mk hb
  have HPO := Aside0.mk h.ok.pols
  obtain ⟨K1, hK1⟩ : ∃ K1, K1 = 9223372036854775808 + L.newest := ⟨_, rfl⟩
  obtain ⟨K2, hK2⟩ : ∃ K2, K2 = K1 + 1 := ⟨_, rfl⟩
  have hw2 : IntKind.u64.wrap (9223372036854775808 + L.newest) = K1 := by have := HPO.out; rw [hK1]; simp [IntKind.wrap, IntKind.bits, IntKind.signed, LG.newest]; omega
  have hw3 : IntKind.u64.wrap (K1 + 1) = K2 := by have := HPO.out; rw [hK2, hK1]; simp [IntKind.wrap, IntKind.bits, IntKind.signed, LG.newest]; omega
  have HK2 := Aside0.mk (show K2 = 9223372036854775808 + L.newest + 1 by rw [hK2, hK1])
  clear h hn hB hk hC hc hb hK1 hK2
  have e0 : decide (9223372036854775808 ≤ k) = false := decide_eq_false hi
  have e1 : (k == 0) = false := beq_eq_false_iff_ne.2 hx
  have e2 : decide (L.next ≤ k) = false := decide_eq_false (by omega)
  have e3 : decide ((bs.length : Int) < 8) = false := decide_eq_false (by omega)
  have e4 : decide (4104 < (bs.length : Int)) = true := decide_eq_true (by omega)
  clear hi hnw h100 hx hy hz hu
  go_enter Try.func30, Try.ntmps30
  go_wp2_with (first
    | ((with_reducible refine gate_dst (N := 4) rfl ?_); refine box_event ?hg (N := 4) ?hd (cs := #[.int .u64 k, .slice A bs.length c]) (t := 52) ?hr ?_; (case hd => rfl); (case hg => rfl); (case hr => first | (go_simp; done) | (go_simp; rfl)); intro gb hg w3 hbox hb; have HB3 := Aside0.mk hb; have BK3 := Aside0.mk hbox; have HGB := Aside0.mk (show w.heap.size ≤ gb by rw [hg]; exact Nat.le_refl _); have c0 : w3.cell? ⟨gb, 0, none⟩ = some (.int .u64 k) := (blk_cell hbox 0).trans rfl; have c1 : w3.cell? ⟨gb, 1, none⟩ = some (.slice A bs.length c) := (blk_cell hbox 1).trans rfl; have HL3 := Aside0.mk (HH.out.below hb); obtain ⟨⟨h0, h1, h2, h3⟩, hf⟩ := HL3.out.cells; have HNW := Aside0.mk (fun m => newest_calls (HL3.out.below (pw_below_drewN (Below.refl _ _) m))); have HC3 := Aside0.mk (Kd.C_below HC.out hb); clear hg hbox hb))
  go_quiet (fail)
  go_wp2
  go_ret
  exact ⟨by rw [HOF.out]; rfl, Ldd.no (pw_below_drewN HB3.out _) HOF.out⟩
set_option maxHeartbeats 4000000 in
set_option maxRecDepth 100000 in
theorem load_hi4 {w : World} {B g b n : Nat} {v : Value} {L : LG} (h : Led w B g b n v L) (hB : B ≤ w.heap.size) (hn : n < maxLen) {k : Int} {A : Option Addr} {c : Nat} {bs : List Int} {nw : Int} (hk : 0 ≤ k ∧ k ≤ 18446744073709551615) (hC : (Kd.int .u8).C w A bs.length bs) (hc : bs.length ≤ c) (hb : Bytes bs) (hnw : L.newest ≤ nw) (h100 : nw ≤ 100) (hi : 9223372036854775808 ≤ k) (hx : k = 9223372036854775808 + L.newest + 1) (hy : L.newest ≠ nw) (hz : bs.length ≤ 2000) :
    Calls Try.prog 30 #[.pointer (some ⟨g, 0, none⟩), .agg #[.int .u64 k, .slice A bs.length c], .int .u64 nw] w fun e w' => e = .returned (.bool (ldOk L k bs nw)) ∧ Ldd w w' B g b n v L k bs nw := by
  have HOF : Aside0 (ldOk L k bs nw = true) := ⟨by unfold ldOk; rw [if_pos hi, show decide (bs.length ≤ 2000) = true from decide_eq_true hz, show decide (L.newest ≠ nw) = true from decide_eq_true hy, show decide (k = 9223372036854775808 + L.newest + 1) = true from decide_eq_true hx]; rfl⟩
  have HOK := Aside0.mk (ldL_ok h.ok hk hb hnw h100 HOF.out)
  have hac : ldL L k bs = ⟨L.posts, L.pols ++ [strOfNums bs], L.next, L.cur⟩ := if_pos hi
  have HAC := Aside0.mk hac
  rw [hac] at HOK
  clear hac
  have HH := Aside0.mk h
  have HN := Aside0.mk hn
  have HBB := Aside0.mk hB
  have HK := Aside0.mk hk
  have HC := Aside0.mk hC
  have HCC := Aside0.mk hc
  have HBY := Aside0.mk hb
  have HPO := Aside0.mk h.ok.pols
  obtain ⟨K1, hK1⟩ : ∃ K1, K1 = 9223372036854775808 + L.newest := ⟨_, rfl⟩
  obtain ⟨K2, hK2⟩ : ∃ K2, K2 = K1 + 1 := ⟨_, rfl⟩
  have hw2 : IntKind.u64.wrap (9223372036854775808 + L.newest) = K1 := by have := HPO.out; rw [hK1]; simp [IntKind.wrap, IntKind.bits, IntKind.signed, LG.newest]; omega
  have hw3 : IntKind.u64.wrap (K1 + 1) = K2 := by have := HPO.out; rw [hK2, hK1]; simp [IntKind.wrap, IntKind.bits, IntKind.signed, LG.newest]; omega
  have HK2 := Aside0.mk (show K2 = 9223372036854775808 + L.newest + 1 by rw [hK2, hK1])
  clear h hn hB hk hC hc hb hK1 hK2
  have e0 : decide (9223372036854775808 ≤ k) = true := decide_eq_true hi
  have e1 : (k != K2) = false := bne_eq_false_iff_eq.2 (by rw [HK2.out]; exact hx)
  have e2 : (L.newest == nw) = false := beq_eq_false_iff_ne.2 hy
  have e3 : decide (2000 < (bs.length : Int)) = false := decide_eq_false (by omega)
  obtain ⟨text, htext⟩ : ∃ text, strOfNums bs = text := ⟨_, rfl⟩
  have HTX := Aside0.mk htext
  rw [htext] at HOK HAC
  obtain ⟨i9, hi9, hz9, hs9, hb9⟩ := info_parts info9
  have I9 := Aside0.mk (And.intro hi9 (And.intro hz9 (And.intro hs9 hb9)))
  clear hi hx hy hz hnw h100 htext hi9 hz9 hs9 hb9
  go_enter Try.func30, Try.ntmps30
  go_wp2_with (first
    | ((with_reducible refine gate_dst (N := 4) rfl ?_); refine box_event ?hg (N := 4) ?hd (cs := #[.int .u64 k, .slice A bs.length c]) (t := 52) ?hr ?_; (case hd => rfl); (case hg => rfl); (case hr => first | (go_simp; done) | (go_simp; rfl)); intro gb hg w3 hbox hb; have HB3 := Aside0.mk hb; have BK3 := Aside0.mk hbox; have HGB := Aside0.mk (show w.heap.size ≤ gb by rw [hg]; exact Nat.le_refl _); have c0 : w3.cell? ⟨gb, 0, none⟩ = some (.int .u64 k) := (blk_cell hbox 0).trans rfl; have c1 : w3.cell? ⟨gb, 1, none⟩ = some (.slice A bs.length c) := (blk_cell hbox 1).trans rfl; have HL3 := Aside0.mk (HH.out.below hb); obtain ⟨⟨h0, h1, h2, h3⟩, hf⟩ := HL3.out.cells; have HNW := Aside0.mk (fun m => newest_calls (HL3.out.below (pw_below_drewN (Below.refl _ _) m))); have HC3 := Aside0.mk (Kd.C_below HC.out hb); clear hg hbox hb))
  go_quiet ((go_at_call 26; refine Calls.quiet_of_same (HNW.out _)))
  have HBQ := Aside0.mk (pw_below_drewN (Below.refl w3.heap.size w3) nq)
  clear h0 h1 h2 h3 hf c0 c1
  generalize w3.drewN nq = w4 at HBQ ⊢
  have HL4 := Aside0.mk (HL3.out.below HBQ.out)
  have BK4 := Aside0.mk (blk_below BK3.out HBQ.out)
  have HB4 := Aside0.mk (HB3.out.trans (HBQ.out.mono HB3.out.size))
  obtain ⟨⟨h0, h1, h2, h3⟩, hf⟩ := HL4.out.cells
  have c0 : w4.cell? ⟨gb, 0, none⟩ = some (.int .u64 k) := (blk_cell BK4.out 0).trans rfl
  have c1 : w4.cell? ⟨gb, 1, none⟩ = some (.slice A bs.length c) := (blk_cell BK4.out 1).trans rfl
  have hcv := (Kd.C_string (P := Try.prog) (A := A) (c := c) Try.underlying50 Try.underlying5 Try.underlying9 (Kd.C_drew (Kd.C_below HC3.out HBQ.out)))
  rw [HTX.out] at hcv
  have hgl : g < w4.heap.size := (HL4.out.lt (.inl rfl)).2
  go_wp2
  have HR6 := Aside0.mk (show (w4.alloc (.cells #[.string text] 9)).drew.ownsRow B 9 1 v L.pols.length (L.pols.map Value.string) from own_mv (S := fun _ => False) HL4.out.row (.of_below (below_alloc (Below.refl _ _) _).drew) (fun _ _ q => q))
  have e2' : (w4.alloc (.cells #[.string text] 9)).drew.heap.size = w4.heap.size + 1 := by simp
  have HS2 := Aside0.mk e2'
  have HBW := Aside0.mk (show B ≤ w4.heap.size from Nat.le_trans HBB.out HB4.out.size)
  have hnb := World.news_of_block (w := (w4.alloc (.cells #[.string text] 9)).drew) (B := w4.heap.size) (cs := #[.string text]) (t := 9) (fr := (0, 0)) (blk_drew (blk_new w4 (.cells #[.string text] 9)))
  have HNB := Aside0.mk hnb
  clear e2' hnb
  go_region_law (first | (refine step_append_lies _ rfl (.tmp 34) (.tmp 38) 56 rfl B 9 i9 (.string ⟨#[]⟩) 1 16 Try.underlying56 I9.out.1 I9.out.2.1 I9.out.2.2.1 I9.out.2.2.2 rfl (by decide) v L.pols.length (L.pols.map Value.string) rfl HR6.out ⟨w4.heap.size, 0, none⟩ 1 1 [.string text] rfl rfl HNB.out (by simp [Value.oneCell']) (by decide) (by have := HPO.out; unfold maxLen; omega) (by have := HPO.out; omega) (by rw [HS2.out]; have := HBW.out; omega) (w4.heap.size + 1) HS2.out ?_; intro g6 cap6 w6 hown6 hg6 hloc6 hlt6; have HO6 := Aside0.mk hown6; have HG6 := Aside0.mk hg6; have HL6 := Aside0.mk hloc6; have BG6 := Aside0.mk ((hg6.block g (by rw [HS2.out]; omega) (fun q => HL4.out.ne.2.1 q.symm)).trans (blk_drew (blk_alloc HL4.out.blk _))); clear h0 h1 h2 h3 hf; have h1 : w6.cell? ⟨g, 1, none⟩ = some v := (blk_cell BG6.out 1).trans rfl; have hf1 := blk_frozen BG6.out 1; clear hown6 hg6 hloc6 hlt6))
  all_goals
    have BG7 := Aside0.mk (blk_set BG6.out 1 (.slice (some ⟨g6, 0, none⟩) (L.pols.length + 1) cap6))
    clear h1 hf1
    go_wp2
    go_ret
    have hlen : (L.pols ++ [text]).length = L.pols.length + 1 := by simp
    have m46 : Mv (fun j => v.ownBlock = some j) w4 w6 := (Mv.of_below (below_alloc (Below.refl _ _) _).drew).trans (.of_grown (S := fun j => v.ownBlock = some j) HG6.out (fun j e => e)) (fun j hj => .inl hj)
    have m67 : Mv (fun j => j = g) w6 (w6.setCell ⟨g, 1, none⟩ (.slice (some ⟨g6, 0, none⟩) (L.pols.length + 1) cap6)) := .set (S := fun j => j = g) _ rfl
    have m1 : Mv (Owns g b v) w (w6.setCell ⟨g, 1, none⟩ (.slice (some ⟨g6, 0, none⟩) (L.pols.length + 1) cap6)) := ((Mv.of_below HB4.out).trans m46 (fun j hj => .inl (.inr (.inr hj)))).trans m67 (fun j hj => .inl (.inl hj))
    have hg6g : g6 ≠ g := by
      rcases HL6.out with q | q
      · exact fun e => HL4.out.ne.2.1 (by rw [q, e])
      · omega
    refine ⟨by rw [HOF.out]; rfl, m1, fun _ => ?_⟩
    rw [HAC.out]
    refine ⟨⟨.slice (some ⟨g6, 0, none⟩) (L.pols.length + 1) cap6, ⟨BG7.out, ?_, ?_, HH.out.gB, HH.out.bB, HOK.out⟩, fun j hj => ?_⟩, m1⟩
    · exact (map_mv (map_mv HL4.out.map m46 HL4.out.ne.2.2) m67 (fun e => HL4.out.ne.1 e.symm)).mono (Nat.le_succ _)
    · have := own_mv HO6.out m67 (fun j hj e => hg6g (by simp [Value.ownBlock] at hj; omega))
      rw [hlen, List.map_append]
      exact this
    · have hj' : g6 = j := by simpa [Value.ownBlock] using hj
      subst hj'
      rcases HL6.out with q | q
      · exact .inl q
      · exact .inr (by have := HB4.out.size; omega)
set_option maxHeartbeats 4000000 in
set_option maxRecDepth 100000 in
theorem load_lo5 {w : World} {B g b n : Nat} {v : Value} {L : LG} (h : Led w B g b n v L) (hB : B ≤ w.heap.size) (hn : n < maxLen) {k : Int} {A : Option Addr} {c : Nat} {bs : List Int} {nw : Int} (hk : 0 ≤ k ∧ k ≤ 18446744073709551615) (hC : (Kd.int .u8).C w A bs.length bs) (hc : bs.length ≤ c) (hb : Bytes bs) (hnw : L.newest ≤ nw) (h100 : nw ≤ 100) (hi : ¬ 9223372036854775808 ≤ k) (hx : k ≠ 0) (hy : k < L.next) (hz : 8 ≤ bs.length) (hu : bs.length ≤ 4104) (h1 : ¬ 0 < verOf bs) :
    Calls Try.prog 30 #[.pointer (some ⟨g, 0, none⟩), .agg #[.int .u64 k, .slice A bs.length c], .int .u64 nw] w fun e w' => e = .returned (.bool (ldOk L k bs nw)) ∧ Ldd w w' B g b n v L k bs nw := by
  have HOF : Aside0 (ldOk L k bs nw = false) := ⟨by
    unfold ldOk
    rw [if_neg hi, show decide (k ≠ 0) = true from decide_eq_true hx, show decide (k < L.next) = true from decide_eq_true hy, show decide (8 ≤ bs.length) = true from decide_eq_true hz, show decide (bs.length ≤ 4104) = true from decide_eq_true hu]
    rw [show decide (0 < verOf bs) = false from decide_eq_false h1]; rfl⟩
  have HAC := Aside0.mk (show ldL L k bs = ⟨setP L.posts ⟨k, verOf bs, strOfNums (bs.drop 8)⟩, L.pols, L.next, L.cur⟩ from if_neg hi)
  have hnum := Aside0.mk (num_is (bs.take 8) (bytes_take hb 8) (List.length_take_le 8 bs) 9 (by have := List.length_take_le 8 bs; omega))
  have HH := Aside0.mk h
  have HN := Aside0.mk hn
  have HBB := Aside0.mk hB
  have HK := Aside0.mk hk
  have HC := Aside0.mk hC
  have HCC := Aside0.mk hc
  have HBY := Aside0.mk hb
  have HPO := Aside0.mk h.ok.pols
  obtain ⟨K1, hK1⟩ : ∃ K1, K1 = 9223372036854775808 + L.newest := ⟨_, rfl⟩
  obtain ⟨K2, hK2⟩ : ∃ K2, K2 = K1 + 1 := ⟨_, rfl⟩
  have hw2 : IntKind.u64.wrap (9223372036854775808 + L.newest) = K1 := by have := HPO.out; rw [hK1]; simp [IntKind.wrap, IntKind.bits, IntKind.signed, LG.newest]; omega
  have hw3 : IntKind.u64.wrap (K1 + 1) = K2 := by have := HPO.out; rw [hK2, hK1]; simp [IntKind.wrap, IntKind.bits, IntKind.signed, LG.newest]; omega
  have HK2 := Aside0.mk (show K2 = 9223372036854775808 + L.newest + 1 by rw [hK2, hK1])
  clear h hn hB hk hC hc hb hK1 hK2
  have e0 : decide (9223372036854775808 ≤ k) = false := decide_eq_false hi
  have e1 : (k == 0) = false := beq_eq_false_iff_ne.2 hx
  have e2 : decide (L.next ≤ k) = false := decide_eq_false (by omega)
  have e3 : decide ((bs.length : Int) < 8) = false := decide_eq_false (by omega)
  have e4 : decide (4104 < (bs.length : Int)) = false := decide_eq_false (by omega)
  obtain ⟨ve, hve⟩ : ∃ ve, verOf bs = ve := ⟨_, rfl⟩
  have f1 : decide (0 < ve) = false := decide_eq_false (by rw [← hve]; exact h1)
  clear h1
  have hnum' : ledger_number.f 9 (bs.take 8) = some ve := by rw [← hve]; exact hnum.out
  have HNUM := Aside0.mk hnum'
  obtain ⟨text, htext⟩ : ∃ text, strOfNums (bs.drop 8) = text := ⟨_, rfl⟩
  rw [hve, htext] at HAC
  have HTX := Aside0.mk htext
  obtain ⟨i0, hi5, _, hsz5, _⟩ := info_parts info5
  obtain ⟨tk1, tk2, tk3⟩ := print_take_of (P := Try.prog) (Value.int .u8) (0 : Int) 50 5 .i64 Try.underlying50 hi5 hsz5 A c bs 8 (by omega) (by omega) HCC.out
  have tk1' : ∀ W : World, (Instr.slice 50 (.slice A bs.length c) none (some (.int .i64 8)) none).run Try.prog W = .ok (.slice A (bs.take 8).length c) W := tk1
  have TK2 := Aside0.mk (show ∀ W, (Kd.int .u8).C W A bs.length bs → (Kd.int .u8).C W A (bs.take 8).length (bs.take 8) from fun W hC => Kd.C_of_reads (h1 := fun _ => rfl) (tk2 W (Kd.reads_of_C hC)))
  have TK3 := Aside0.mk (show (bs.take 8).length ≤ c from tk3)
  obtain ⟨A', dr1, dr2, dr3⟩ := print_drop_of (P := Try.prog) (Value.int .u8) (0 : Int) 50 5 .i64 Try.underlying50 hi5 hsz5 A c bs 8 (by omega) (by omega) HCC.out
  obtain ⟨c', hc'⟩ : ∃ c', c - (8 : Int).toNat = c' := ⟨_, rfl⟩
  rw [hc'] at dr1 dr3
  have dr1' : ∀ W : World, (Instr.slice 50 (.slice A bs.length c) (some (.int .i64 8)) none none).run Try.prog W = .ok (.slice A' (bs.drop 8).length c') W := dr1
  have DR2 := Aside0.mk (show ∀ W, (Kd.int .u8).C W A bs.length bs → (Kd.int .u8).C W A' (bs.drop 8).length (bs.drop 8) from fun W hC => Kd.C_of_reads (h1 := fun _ => rfl) (dr2 W (Kd.reads_of_C hC)))
  have hkk := Aside0.mk (keyOf_int_mk Try.underlying24 (wf64 HK.out))
  obtain ⟨tk, htk⟩ : ∃ tk, bs.take 8 = tk := ⟨_, rfl⟩
  obtain ⟨dr, hdr⟩ : ∃ dr, bs.drop 8 = dr := ⟨_, rfl⟩
  rw [htk] at tk1' TK2 TK3 HNUM
  rw [hdr] at dr1' DR2 HTX
  clear hi hx hy hz hu hnw h100 hnum hnum' hve htext tk1 tk2 tk3 dr1 dr2 dr3 htk hdr hi5 hsz5 hc'
  go_enter Try.func30, Try.ntmps30
  go_wp2_with (first
    | ((with_reducible refine gate_dst (N := 4) rfl ?_); refine box_event ?hg (N := 4) ?hd (cs := #[.int .u64 k, .slice A bs.length c]) (t := 52) ?hr ?_; (case hd => rfl); (case hg => rfl); (case hr => first | (go_simp; done) | (go_simp; rfl)); intro gb hg w3 hbox hb; have HB3 := Aside0.mk hb; have BK3 := Aside0.mk hbox; have HGB := Aside0.mk (show w.heap.size ≤ gb by rw [hg]; exact Nat.le_refl _); have c0 : w3.cell? ⟨gb, 0, none⟩ = some (.int .u64 k) := (blk_cell hbox 0).trans rfl; have c1 : w3.cell? ⟨gb, 1, none⟩ = some (.slice A bs.length c) := (blk_cell hbox 1).trans rfl; have HL3 := Aside0.mk (HH.out.below hb); obtain ⟨⟨h0, h1, h2, h3⟩, hf⟩ := HL3.out.cells; have HNW := Aside0.mk (fun m => newest_calls (HL3.out.below (pw_below_drewN (Below.refl _ _) m))); have HC3 := Aside0.mk (Kd.C_below HC.out hb); clear hg hbox hb))
  go_quiet (fail)
  have HBQ := Aside0.mk (pw_below_drewN (Below.refl w3.heap.size w3) nq)
  clear h0 h1 h2 h3 hf c0 c1
  generalize w3.drewN nq = w4 at HBQ ⊢
  have HL4 := Aside0.mk (HL3.out.below HBQ.out)
  have BK4 := Aside0.mk (blk_below BK3.out HBQ.out)
  have HB4 := Aside0.mk (HB3.out.trans (HBQ.out.mono HB3.out.size))
  have HC4 := Aside0.mk (Kd.C_below HC3.out HBQ.out)
  have c0 : w4.cell? ⟨gb, 0, none⟩ = some (.int .u64 k) := (blk_cell BK4.out 0).trans rfl
  have c1 : w4.cell? ⟨gb, 1, none⟩ = some (.slice A bs.length c) := (blk_cell BK4.out 1).trans rfl
  go_wp2_with (go_at_call 29; (with_reducible refine (ledger_number.calls 9 A c tk ve _ ?s1 ?s2 HNUM.out).mono ?_); (case s1 => exact TK2.out _ HC4.out); (case s2 => exact TK3.out); rintro e w5 ⟨rfl, hd⟩; have HBD := Aside0.mk (show Below w4.heap.size w4 w5 from by obtain ⟨n_, rfl⟩ := hd.out; exact pw_below_drewN (Below.refl _ _) n_); have HL5 := Aside0.mk (HL4.out.below HBD.out); have BK5 := Aside0.mk (blk_below BK4.out HBD.out); have HB5 := Aside0.mk (HB4.out.trans (HBD.out.mono HB4.out.size)); have HC5 := Aside0.mk (Kd.C_below HC4.out HBD.out); clear c0 c1 hd; have c0 : w5.cell? ⟨gb, 0, none⟩ = some (.int .u64 k) := (blk_cell BK5.out 0).trans rfl; have c1 : w5.cell? ⟨gb, 1, none⟩ = some (.slice A bs.length c) := (blk_cell BK5.out 1).trans rfl; (obtain ⟨⟨h0, h1, h2, h3⟩, hf⟩ := HL5.out.cells))
  have hcv := (Kd.C_string (P := Try.prog) (A := A') (c := c') Try.underlying50 Try.underlying5 Try.underlying9 (Kd.C_drew (DR2.out _ HC5.out)))
  rw [HTX.out] at hcv
  refine region_tail 14 (by kernel_rfl) (by kernel_rfl) ?_
  simp only [List.take_succ_cons, List.take_zero, List.drop_succ_cons, List.drop_zero]
  repeat still_step
  refine wpStill_nil ?_
  have HM := Aside0.mk HL5.out.map.drew
  go_wp2_with (at_mapUpdate; refine wpList_mapUpdate_own _ rfl _ _ _ 67 rfl 24 42 law24 Try.underlying67 _ b n _ rfl HM.out HN.out _ _ _ rfl rfl hkk.out (pd ⟨k, ve, text⟩) [] (postR_mk ⟨k, ve, text⟩) ?_; intro w6 hown6 hg6; have HO6 := Aside0.mk hown6; have HG6 := Aside0.mk hg6; have BG6 := Aside0.mk (blk_grown (blk_drew HL5.out.blk) hg6 HL5.out.ne.1); have BB6 := Aside0.mk (blk_grown (blk_drew BK5.out) hg6 (by have := HGB.out; have := (HH.out.lt (.inr (.inl rfl))).2; omega)); clear hown6 hg6 h0 h1 h2 h3 hf c0 c1 hcv; have c0 : w6.cell? ⟨gb, 0, none⟩ = some (.int .u64 k) := (blk_cell BB6.out 0).trans rfl; have h3 : w6.cell? ⟨g, 3, none⟩ = some (.int .u64 L.cur) := (blk_cell BG6.out 3).trans rfl; go_frame)
  go_quiet (fail)
  go_wp2
  go_ret
  have m56 : Mv (fun j => j = b) w5 w6 := (Mv.of_below (below_drew (Below.refl _ _))).trans (.of_grown (S := fun j => j = b) HG6.out (fun j e => by cases e; rfl)) (fun j hj => .inl hj)
  have m1 : Mv (Owns g b v) w (w6.drewN nq) := ((Mv.of_below HB5.out).trans m56 (fun j hj => .inl (.inr (.inl hj)))).trans (S' := fun _ => False) (.of_below (pw_below_drewN (Below.refl _ _) _)) (fun j hj => hj.elim)
  refine ⟨by rw [HOF.out]; rfl, m1, fun q => by rw [HOF.out] at q; cases q⟩
set_option maxHeartbeats 4000000 in
set_option maxRecDepth 100000 in
theorem load_lo6 {w : World} {B g b n : Nat} {v : Value} {L : LG} (h : Led w B g b n v L) (hB : B ≤ w.heap.size) (hn : n < maxLen) {k : Int} {A : Option Addr} {c : Nat} {bs : List Int} {nw : Int} (hk : 0 ≤ k ∧ k ≤ 18446744073709551615) (hC : (Kd.int .u8).C w A bs.length bs) (hc : bs.length ≤ c) (hb : Bytes bs) (hnw : L.newest ≤ nw) (h100 : nw ≤ 100) (hi : ¬ 9223372036854775808 ≤ k) (hx : k ≠ 0) (hy : k < L.next) (hz : 8 ≤ bs.length) (hu : bs.length ≤ 4104) (h1 : 0 < verOf bs) (h2 : ¬ verOf bs ≤ nw) :
    Calls Try.prog 30 #[.pointer (some ⟨g, 0, none⟩), .agg #[.int .u64 k, .slice A bs.length c], .int .u64 nw] w fun e w' => e = .returned (.bool (ldOk L k bs nw)) ∧ Ldd w w' B g b n v L k bs nw := by
  have HOF : Aside0 (ldOk L k bs nw = false) := ⟨by
    unfold ldOk
    rw [if_neg hi, show decide (k ≠ 0) = true from decide_eq_true hx, show decide (k < L.next) = true from decide_eq_true hy, show decide (8 ≤ bs.length) = true from decide_eq_true hz, show decide (bs.length ≤ 4104) = true from decide_eq_true hu]
    rw [show decide (0 < verOf bs) = true from decide_eq_true h1, show decide (verOf bs ≤ nw) = false from decide_eq_false h2]; rfl⟩
  have HAC := Aside0.mk (show ldL L k bs = ⟨setP L.posts ⟨k, verOf bs, strOfNums (bs.drop 8)⟩, L.pols, L.next, L.cur⟩ from if_neg hi)
  have hnum := Aside0.mk (num_is (bs.take 8) (bytes_take hb 8) (List.length_take_le 8 bs) 9 (by have := List.length_take_le 8 bs; omega))
  have HH := Aside0.mk h
  have HN := Aside0.mk hn
  have HBB := Aside0.mk hB
  have HK := Aside0.mk hk
  have HC := Aside0.mk hC
  have HCC := Aside0.mk hc
  have HBY := Aside0.mk hb
  have HPO := Aside0.mk h.ok.pols
  obtain ⟨K1, hK1⟩ : ∃ K1, K1 = 9223372036854775808 + L.newest := ⟨_, rfl⟩
  obtain ⟨K2, hK2⟩ : ∃ K2, K2 = K1 + 1 := ⟨_, rfl⟩
  have hw2 : IntKind.u64.wrap (9223372036854775808 + L.newest) = K1 := by have := HPO.out; rw [hK1]; simp [IntKind.wrap, IntKind.bits, IntKind.signed, LG.newest]; omega
  have hw3 : IntKind.u64.wrap (K1 + 1) = K2 := by have := HPO.out; rw [hK2, hK1]; simp [IntKind.wrap, IntKind.bits, IntKind.signed, LG.newest]; omega
  have HK2 := Aside0.mk (show K2 = 9223372036854775808 + L.newest + 1 by rw [hK2, hK1])
  clear h hn hB hk hC hc hb hK1 hK2
  have e0 : decide (9223372036854775808 ≤ k) = false := decide_eq_false hi
  have e1 : (k == 0) = false := beq_eq_false_iff_ne.2 hx
  have e2 : decide (L.next ≤ k) = false := decide_eq_false (by omega)
  have e3 : decide ((bs.length : Int) < 8) = false := decide_eq_false (by omega)
  have e4 : decide (4104 < (bs.length : Int)) = false := decide_eq_false (by omega)
  obtain ⟨ve, hve⟩ : ∃ ve, verOf bs = ve := ⟨_, rfl⟩
  have f1 : decide (0 < ve) = true := decide_eq_true (by rw [← hve]; exact h1)
  have f2 : decide (ve ≤ nw) = false := decide_eq_false (by rw [← hve]; exact h2)
  clear h1 h2
  have hnum' : ledger_number.f 9 (bs.take 8) = some ve := by rw [← hve]; exact hnum.out
  have HNUM := Aside0.mk hnum'
  obtain ⟨text, htext⟩ : ∃ text, strOfNums (bs.drop 8) = text := ⟨_, rfl⟩
  rw [hve, htext] at HAC
  have HTX := Aside0.mk htext
  obtain ⟨i0, hi5, _, hsz5, _⟩ := info_parts info5
  obtain ⟨tk1, tk2, tk3⟩ := print_take_of (P := Try.prog) (Value.int .u8) (0 : Int) 50 5 .i64 Try.underlying50 hi5 hsz5 A c bs 8 (by omega) (by omega) HCC.out
  have tk1' : ∀ W : World, (Instr.slice 50 (.slice A bs.length c) none (some (.int .i64 8)) none).run Try.prog W = .ok (.slice A (bs.take 8).length c) W := tk1
  have TK2 := Aside0.mk (show ∀ W, (Kd.int .u8).C W A bs.length bs → (Kd.int .u8).C W A (bs.take 8).length (bs.take 8) from fun W hC => Kd.C_of_reads (h1 := fun _ => rfl) (tk2 W (Kd.reads_of_C hC)))
  have TK3 := Aside0.mk (show (bs.take 8).length ≤ c from tk3)
  obtain ⟨A', dr1, dr2, dr3⟩ := print_drop_of (P := Try.prog) (Value.int .u8) (0 : Int) 50 5 .i64 Try.underlying50 hi5 hsz5 A c bs 8 (by omega) (by omega) HCC.out
  obtain ⟨c', hc'⟩ : ∃ c', c - (8 : Int).toNat = c' := ⟨_, rfl⟩
  rw [hc'] at dr1 dr3
  have dr1' : ∀ W : World, (Instr.slice 50 (.slice A bs.length c) (some (.int .i64 8)) none none).run Try.prog W = .ok (.slice A' (bs.drop 8).length c') W := dr1
  have DR2 := Aside0.mk (show ∀ W, (Kd.int .u8).C W A bs.length bs → (Kd.int .u8).C W A' (bs.drop 8).length (bs.drop 8) from fun W hC => Kd.C_of_reads (h1 := fun _ => rfl) (dr2 W (Kd.reads_of_C hC)))
  have hkk := Aside0.mk (keyOf_int_mk Try.underlying24 (wf64 HK.out))
  obtain ⟨tk, htk⟩ : ∃ tk, bs.take 8 = tk := ⟨_, rfl⟩
  obtain ⟨dr, hdr⟩ : ∃ dr, bs.drop 8 = dr := ⟨_, rfl⟩
  rw [htk] at tk1' TK2 TK3 HNUM
  rw [hdr] at dr1' DR2 HTX
  clear hi hx hy hz hu hnw h100 hnum hnum' hve htext tk1 tk2 tk3 dr1 dr2 dr3 htk hdr hi5 hsz5 hc'
  go_enter Try.func30, Try.ntmps30
  go_wp2_with (first
    | ((with_reducible refine gate_dst (N := 4) rfl ?_); refine box_event ?hg (N := 4) ?hd (cs := #[.int .u64 k, .slice A bs.length c]) (t := 52) ?hr ?_; (case hd => rfl); (case hg => rfl); (case hr => first | (go_simp; done) | (go_simp; rfl)); intro gb hg w3 hbox hb; have HB3 := Aside0.mk hb; have BK3 := Aside0.mk hbox; have HGB := Aside0.mk (show w.heap.size ≤ gb by rw [hg]; exact Nat.le_refl _); have c0 : w3.cell? ⟨gb, 0, none⟩ = some (.int .u64 k) := (blk_cell hbox 0).trans rfl; have c1 : w3.cell? ⟨gb, 1, none⟩ = some (.slice A bs.length c) := (blk_cell hbox 1).trans rfl; have HL3 := Aside0.mk (HH.out.below hb); obtain ⟨⟨h0, h1, h2, h3⟩, hf⟩ := HL3.out.cells; have HNW := Aside0.mk (fun m => newest_calls (HL3.out.below (pw_below_drewN (Below.refl _ _) m))); have HC3 := Aside0.mk (Kd.C_below HC.out hb); clear hg hbox hb))
  go_quiet (fail)
  have HBQ := Aside0.mk (pw_below_drewN (Below.refl w3.heap.size w3) nq)
  clear h0 h1 h2 h3 hf c0 c1
  generalize w3.drewN nq = w4 at HBQ ⊢
  have HL4 := Aside0.mk (HL3.out.below HBQ.out)
  have BK4 := Aside0.mk (blk_below BK3.out HBQ.out)
  have HB4 := Aside0.mk (HB3.out.trans (HBQ.out.mono HB3.out.size))
  have HC4 := Aside0.mk (Kd.C_below HC3.out HBQ.out)
  have c0 : w4.cell? ⟨gb, 0, none⟩ = some (.int .u64 k) := (blk_cell BK4.out 0).trans rfl
  have c1 : w4.cell? ⟨gb, 1, none⟩ = some (.slice A bs.length c) := (blk_cell BK4.out 1).trans rfl
  go_wp2_with (go_at_call 29; (with_reducible refine (ledger_number.calls 9 A c tk ve _ ?s1 ?s2 HNUM.out).mono ?_); (case s1 => exact TK2.out _ HC4.out); (case s2 => exact TK3.out); rintro e w5 ⟨rfl, hd⟩; have HBD := Aside0.mk (show Below w4.heap.size w4 w5 from by obtain ⟨n_, rfl⟩ := hd.out; exact pw_below_drewN (Below.refl _ _) n_); have HL5 := Aside0.mk (HL4.out.below HBD.out); have BK5 := Aside0.mk (blk_below BK4.out HBD.out); have HB5 := Aside0.mk (HB4.out.trans (HBD.out.mono HB4.out.size)); have HC5 := Aside0.mk (Kd.C_below HC4.out HBD.out); clear c0 c1 hd; have c0 : w5.cell? ⟨gb, 0, none⟩ = some (.int .u64 k) := (blk_cell BK5.out 0).trans rfl; have c1 : w5.cell? ⟨gb, 1, none⟩ = some (.slice A bs.length c) := (blk_cell BK5.out 1).trans rfl; (obtain ⟨⟨h0, h1, h2, h3⟩, hf⟩ := HL5.out.cells))
  have hcv := (Kd.C_string (P := Try.prog) (A := A') (c := c') Try.underlying50 Try.underlying5 Try.underlying9 (Kd.C_drew (DR2.out _ HC5.out)))
  rw [HTX.out] at hcv
  refine region_tail 14 (by kernel_rfl) (by kernel_rfl) ?_
  simp only [List.take_succ_cons, List.take_zero, List.drop_succ_cons, List.drop_zero]
  repeat still_step
  refine wpStill_nil ?_
  have HM := Aside0.mk HL5.out.map.drew
  go_wp2_with (at_mapUpdate; refine wpList_mapUpdate_own _ rfl _ _ _ 67 rfl 24 42 law24 Try.underlying67 _ b n _ rfl HM.out HN.out _ _ _ rfl rfl hkk.out (pd ⟨k, ve, text⟩) [] (postR_mk ⟨k, ve, text⟩) ?_; intro w6 hown6 hg6; have HO6 := Aside0.mk hown6; have HG6 := Aside0.mk hg6; have BG6 := Aside0.mk (blk_grown (blk_drew HL5.out.blk) hg6 HL5.out.ne.1); have BB6 := Aside0.mk (blk_grown (blk_drew BK5.out) hg6 (by have := HGB.out; have := (HH.out.lt (.inr (.inl rfl))).2; omega)); clear hown6 hg6 h0 h1 h2 h3 hf c0 c1 hcv; have c0 : w6.cell? ⟨gb, 0, none⟩ = some (.int .u64 k) := (blk_cell BB6.out 0).trans rfl; have h3 : w6.cell? ⟨g, 3, none⟩ = some (.int .u64 L.cur) := (blk_cell BG6.out 3).trans rfl; go_frame)
  go_quiet (fail)
  go_wp2
  go_ret
  have m56 : Mv (fun j => j = b) w5 w6 := (Mv.of_below (below_drew (Below.refl _ _))).trans (.of_grown (S := fun j => j = b) HG6.out (fun j e => by cases e; rfl)) (fun j hj => .inl hj)
  have m1 : Mv (Owns g b v) w (w6.drewN nq) := ((Mv.of_below HB5.out).trans m56 (fun j hj => .inl (.inr (.inl hj)))).trans (S' := fun _ => False) (.of_below (pw_below_drewN (Below.refl _ _) _)) (fun j hj => hj.elim)
  refine ⟨by rw [HOF.out]; rfl, m1, fun q => by rw [HOF.out] at q; cases q⟩
set_option maxHeartbeats 4000000 in
set_option maxRecDepth 100000 in
theorem load_lo7 {w : World} {B g b n : Nat} {v : Value} {L : LG} (h : Led w B g b n v L) (hB : B ≤ w.heap.size) (hn : n < maxLen) {k : Int} {A : Option Addr} {c : Nat} {bs : List Int} {nw : Int} (hk : 0 ≤ k ∧ k ≤ 18446744073709551615) (hC : (Kd.int .u8).C w A bs.length bs) (hc : bs.length ≤ c) (hb : Bytes bs) (hnw : L.newest ≤ nw) (h100 : nw ≤ 100) (hi : ¬ 9223372036854775808 ≤ k) (hx : k ≠ 0) (hy : k < L.next) (hz : 8 ≤ bs.length) (hu : bs.length ≤ 4104) (h1 : 0 < verOf bs) (h2 : verOf bs ≤ nw) (h3 : L.cur < k) :
    Calls Try.prog 30 #[.pointer (some ⟨g, 0, none⟩), .agg #[.int .u64 k, .slice A bs.length c], .int .u64 nw] w fun e w' => e = .returned (.bool (ldOk L k bs nw)) ∧ Ldd w w' B g b n v L k bs nw := by
  have HOF : Aside0 (ldOk L k bs nw = true) := ⟨by
    unfold ldOk
    rw [if_neg hi, show decide (k ≠ 0) = true from decide_eq_true hx, show decide (k < L.next) = true from decide_eq_true hy, show decide (8 ≤ bs.length) = true from decide_eq_true hz, show decide (bs.length ≤ 4104) = true from decide_eq_true hu]
    rw [show decide (0 < verOf bs) = true from decide_eq_true h1, show decide (verOf bs ≤ nw) = true from decide_eq_true h2, show decide (L.cur < k) = true from decide_eq_true h3]; rfl⟩
  have HOK := Aside0.mk (ldL_ok h.ok hk hb hnw h100 HOF.out)
  have HAC := Aside0.mk (show ldL L k bs = ⟨setP L.posts ⟨k, verOf bs, strOfNums (bs.drop 8)⟩, L.pols, L.next, L.cur⟩ from if_neg hi)
  have hnum := Aside0.mk (num_is (bs.take 8) (bytes_take hb 8) (List.length_take_le 8 bs) 9 (by have := List.length_take_le 8 bs; omega))
  have HH := Aside0.mk h
  have HN := Aside0.mk hn
  have HBB := Aside0.mk hB
  have HK := Aside0.mk hk
  have HC := Aside0.mk hC
  have HCC := Aside0.mk hc
  have HBY := Aside0.mk hb
  have HPO := Aside0.mk h.ok.pols
  obtain ⟨K1, hK1⟩ : ∃ K1, K1 = 9223372036854775808 + L.newest := ⟨_, rfl⟩
  obtain ⟨K2, hK2⟩ : ∃ K2, K2 = K1 + 1 := ⟨_, rfl⟩
  have hw2 : IntKind.u64.wrap (9223372036854775808 + L.newest) = K1 := by have := HPO.out; rw [hK1]; simp [IntKind.wrap, IntKind.bits, IntKind.signed, LG.newest]; omega
  have hw3 : IntKind.u64.wrap (K1 + 1) = K2 := by have := HPO.out; rw [hK2, hK1]; simp [IntKind.wrap, IntKind.bits, IntKind.signed, LG.newest]; omega
  have HK2 := Aside0.mk (show K2 = 9223372036854775808 + L.newest + 1 by rw [hK2, hK1])
  clear h hn hB hk hC hc hb hK1 hK2
  have e0 : decide (9223372036854775808 ≤ k) = false := decide_eq_false hi
  have e1 : (k == 0) = false := beq_eq_false_iff_ne.2 hx
  have e2 : decide (L.next ≤ k) = false := decide_eq_false (by omega)
  have e3 : decide ((bs.length : Int) < 8) = false := decide_eq_false (by omega)
  have e4 : decide (4104 < (bs.length : Int)) = false := decide_eq_false (by omega)
  obtain ⟨ve, hve⟩ : ∃ ve, verOf bs = ve := ⟨_, rfl⟩
  have f1 : decide (0 < ve) = true := decide_eq_true (by rw [← hve]; exact h1)
  have f2 : decide (ve ≤ nw) = true := decide_eq_true (by rw [← hve]; exact h2)
  have f3 : decide (L.cur < k) = true := decide_eq_true h3
  clear h1 h2 h3
  have hnum' : ledger_number.f 9 (bs.take 8) = some ve := by rw [← hve]; exact hnum.out
  have HNUM := Aside0.mk hnum'
  obtain ⟨text, htext⟩ : ∃ text, strOfNums (bs.drop 8) = text := ⟨_, rfl⟩
  rw [hve, htext] at HAC
  have HTX := Aside0.mk htext
  obtain ⟨i0, hi5, _, hsz5, _⟩ := info_parts info5
  obtain ⟨tk1, tk2, tk3⟩ := print_take_of (P := Try.prog) (Value.int .u8) (0 : Int) 50 5 .i64 Try.underlying50 hi5 hsz5 A c bs 8 (by omega) (by omega) HCC.out
  have tk1' : ∀ W : World, (Instr.slice 50 (.slice A bs.length c) none (some (.int .i64 8)) none).run Try.prog W = .ok (.slice A (bs.take 8).length c) W := tk1
  have TK2 := Aside0.mk (show ∀ W, (Kd.int .u8).C W A bs.length bs → (Kd.int .u8).C W A (bs.take 8).length (bs.take 8) from fun W hC => Kd.C_of_reads (h1 := fun _ => rfl) (tk2 W (Kd.reads_of_C hC)))
  have TK3 := Aside0.mk (show (bs.take 8).length ≤ c from tk3)
  obtain ⟨A', dr1, dr2, dr3⟩ := print_drop_of (P := Try.prog) (Value.int .u8) (0 : Int) 50 5 .i64 Try.underlying50 hi5 hsz5 A c bs 8 (by omega) (by omega) HCC.out
  obtain ⟨c', hc'⟩ : ∃ c', c - (8 : Int).toNat = c' := ⟨_, rfl⟩
  rw [hc'] at dr1 dr3
  have dr1' : ∀ W : World, (Instr.slice 50 (.slice A bs.length c) (some (.int .i64 8)) none none).run Try.prog W = .ok (.slice A' (bs.drop 8).length c') W := dr1
  have DR2 := Aside0.mk (show ∀ W, (Kd.int .u8).C W A bs.length bs → (Kd.int .u8).C W A' (bs.drop 8).length (bs.drop 8) from fun W hC => Kd.C_of_reads (h1 := fun _ => rfl) (dr2 W (Kd.reads_of_C hC)))
  have hkk := Aside0.mk (keyOf_int_mk Try.underlying24 (wf64 HK.out))
  obtain ⟨tk, htk⟩ : ∃ tk, bs.take 8 = tk := ⟨_, rfl⟩
  obtain ⟨dr, hdr⟩ : ∃ dr, bs.drop 8 = dr := ⟨_, rfl⟩
  rw [htk] at tk1' TK2 TK3 HNUM
  rw [hdr] at dr1' DR2 HTX
  clear hi hx hy hz hu hnw h100 hnum hnum' hve htext tk1 tk2 tk3 dr1 dr2 dr3 htk hdr hi5 hsz5 hc'
  go_enter Try.func30, Try.ntmps30
  go_wp2_with (first
    | ((with_reducible refine gate_dst (N := 4) rfl ?_); refine box_event ?hg (N := 4) ?hd (cs := #[.int .u64 k, .slice A bs.length c]) (t := 52) ?hr ?_; (case hd => rfl); (case hg => rfl); (case hr => first | (go_simp; done) | (go_simp; rfl)); intro gb hg w3 hbox hb; have HB3 := Aside0.mk hb; have BK3 := Aside0.mk hbox; have HGB := Aside0.mk (show w.heap.size ≤ gb by rw [hg]; exact Nat.le_refl _); have c0 : w3.cell? ⟨gb, 0, none⟩ = some (.int .u64 k) := (blk_cell hbox 0).trans rfl; have c1 : w3.cell? ⟨gb, 1, none⟩ = some (.slice A bs.length c) := (blk_cell hbox 1).trans rfl; have HL3 := Aside0.mk (HH.out.below hb); obtain ⟨⟨h0, h1, h2, h3⟩, hf⟩ := HL3.out.cells; have HNW := Aside0.mk (fun m => newest_calls (HL3.out.below (pw_below_drewN (Below.refl _ _) m))); have HC3 := Aside0.mk (Kd.C_below HC.out hb); clear hg hbox hb))
  go_quiet (fail)
  have HBQ := Aside0.mk (pw_below_drewN (Below.refl w3.heap.size w3) nq)
  clear h0 h1 h2 h3 hf c0 c1
  generalize w3.drewN nq = w4 at HBQ ⊢
  have HL4 := Aside0.mk (HL3.out.below HBQ.out)
  have BK4 := Aside0.mk (blk_below BK3.out HBQ.out)
  have HB4 := Aside0.mk (HB3.out.trans (HBQ.out.mono HB3.out.size))
  have HC4 := Aside0.mk (Kd.C_below HC3.out HBQ.out)
  have c0 : w4.cell? ⟨gb, 0, none⟩ = some (.int .u64 k) := (blk_cell BK4.out 0).trans rfl
  have c1 : w4.cell? ⟨gb, 1, none⟩ = some (.slice A bs.length c) := (blk_cell BK4.out 1).trans rfl
  go_wp2_with (go_at_call 29; (with_reducible refine (ledger_number.calls 9 A c tk ve _ ?s1 ?s2 HNUM.out).mono ?_); (case s1 => exact TK2.out _ HC4.out); (case s2 => exact TK3.out); rintro e w5 ⟨rfl, hd⟩; have HBD := Aside0.mk (show Below w4.heap.size w4 w5 from by obtain ⟨n_, rfl⟩ := hd.out; exact pw_below_drewN (Below.refl _ _) n_); have HL5 := Aside0.mk (HL4.out.below HBD.out); have BK5 := Aside0.mk (blk_below BK4.out HBD.out); have HB5 := Aside0.mk (HB4.out.trans (HBD.out.mono HB4.out.size)); have HC5 := Aside0.mk (Kd.C_below HC4.out HBD.out); clear c0 c1 hd; have c0 : w5.cell? ⟨gb, 0, none⟩ = some (.int .u64 k) := (blk_cell BK5.out 0).trans rfl; have c1 : w5.cell? ⟨gb, 1, none⟩ = some (.slice A bs.length c) := (blk_cell BK5.out 1).trans rfl; (obtain ⟨⟨h0, h1, h2, h3⟩, hf⟩ := HL5.out.cells))
  have hcv := (Kd.C_string (P := Try.prog) (A := A') (c := c') Try.underlying50 Try.underlying5 Try.underlying9 (Kd.C_drew (DR2.out _ HC5.out)))
  rw [HTX.out] at hcv
  refine region_tail 14 (by kernel_rfl) (by kernel_rfl) ?_
  simp only [List.take_succ_cons, List.take_zero, List.drop_succ_cons, List.drop_zero]
  repeat still_step
  refine wpStill_nil ?_
  have HM := Aside0.mk HL5.out.map.drew
  go_wp2_with (at_mapUpdate; refine wpList_mapUpdate_own _ rfl _ _ _ 67 rfl 24 42 law24 Try.underlying67 _ b n _ rfl HM.out HN.out _ _ _ rfl rfl hkk.out (pd ⟨k, ve, text⟩) [] (postR_mk ⟨k, ve, text⟩) ?_; intro w6 hown6 hg6; have HO6 := Aside0.mk hown6; have HG6 := Aside0.mk hg6; have BG6 := Aside0.mk (blk_grown (blk_drew HL5.out.blk) hg6 HL5.out.ne.1); have BB6 := Aside0.mk (blk_grown (blk_drew BK5.out) hg6 (by have := HGB.out; have := (HH.out.lt (.inr (.inl rfl))).2; omega)); clear hown6 hg6 h0 h1 h2 h3 hf c0 c1 hcv; have c0 : w6.cell? ⟨gb, 0, none⟩ = some (.int .u64 k) := (blk_cell BB6.out 0).trans rfl; have h3 : w6.cell? ⟨g, 3, none⟩ = some (.int .u64 L.cur) := (blk_cell BG6.out 3).trans rfl; go_frame)
  go_quiet (fail)
  go_wp2
  go_ret
  have m56 : Mv (fun j => j = b) w5 w6 := (Mv.of_below (below_drew (Below.refl _ _))).trans (.of_grown (S := fun j => j = b) HG6.out (fun j e => by cases e; rfl)) (fun j hj => .inl hj)
  have m1 : Mv (Owns g b v) w (w6.drewN nq) := ((Mv.of_below HB5.out).trans m56 (fun j hj => .inl (.inr (.inl hj)))).trans (S' := fun _ => False) (.of_below (pw_below_drewN (Below.refl _ _) _)) (fun j hj => hj.elim)
  have e1' := put_eq HL5.out.ok.rise (⟨k, ve, text⟩ : LP) (x := k) rfl (HO6.out.canon law24)
  refine ⟨by rw [HOF.out]; rfl, m1, fun _ => ?_⟩
  rw [HAC.out] at HOK ⊢
  exact ⟨⟨v, ⟨(BG6.out : _), e1' ▸ HO6.out, own_mv HL5.out.row (m56.trans (S' := fun _ => False) (.of_below (pw_below_drewN (Below.refl _ _) _)) (fun j hj => hj.elim)) (fun j hj e => HL5.out.ne.2.2 (by rw [hj, e])), HH.out.gB, HH.out.bB, HOK.out⟩, fun j hj => .inl hj⟩, m1⟩
set_option maxHeartbeats 4000000 in
set_option maxRecDepth 100000 in
theorem load_lo8 {w : World} {B g b n : Nat} {v : Value} {L : LG} (h : Led w B g b n v L) (hB : B ≤ w.heap.size) (hn : n < maxLen) {k : Int} {A : Option Addr} {c : Nat} {bs : List Int} {nw : Int} (hk : 0 ≤ k ∧ k ≤ 18446744073709551615) (hC : (Kd.int .u8).C w A bs.length bs) (hc : bs.length ≤ c) (hb : Bytes bs) (hnw : L.newest ≤ nw) (h100 : nw ≤ 100) (hi : ¬ 9223372036854775808 ≤ k) (hx : k ≠ 0) (hy : k < L.next) (hz : 8 ≤ bs.length) (hu : bs.length ≤ 4104) (h1 : 0 < verOf bs) (h2 : verOf bs ≤ nw) (h3 : ¬ L.cur < k) (h4 : verOf bs = nw) :
    Calls Try.prog 30 #[.pointer (some ⟨g, 0, none⟩), .agg #[.int .u64 k, .slice A bs.length c], .int .u64 nw] w fun e w' => e = .returned (.bool (ldOk L k bs nw)) ∧ Ldd w w' B g b n v L k bs nw := by
  have HOF : Aside0 (ldOk L k bs nw = true) := ⟨by
    unfold ldOk
    rw [if_neg hi, show decide (k ≠ 0) = true from decide_eq_true hx, show decide (k < L.next) = true from decide_eq_true hy, show decide (8 ≤ bs.length) = true from decide_eq_true hz, show decide (bs.length ≤ 4104) = true from decide_eq_true hu]
    rw [show decide (0 < verOf bs) = true from decide_eq_true h1, show decide (verOf bs ≤ nw) = true from decide_eq_true h2, show decide (L.cur < k) = false from decide_eq_false h3, show decide (verOf bs = nw) = true from decide_eq_true h4]; rfl⟩
  have HOK := Aside0.mk (ldL_ok h.ok hk hb hnw h100 HOF.out)
  have HAC := Aside0.mk (show ldL L k bs = ⟨setP L.posts ⟨k, verOf bs, strOfNums (bs.drop 8)⟩, L.pols, L.next, L.cur⟩ from if_neg hi)
  have hnum := Aside0.mk (num_is (bs.take 8) (bytes_take hb 8) (List.length_take_le 8 bs) 9 (by have := List.length_take_le 8 bs; omega))
  have HH := Aside0.mk h
  have HN := Aside0.mk hn
  have HBB := Aside0.mk hB
  have HK := Aside0.mk hk
  have HC := Aside0.mk hC
  have HCC := Aside0.mk hc
  have HBY := Aside0.mk hb
  have HPO := Aside0.mk h.ok.pols
  obtain ⟨K1, hK1⟩ : ∃ K1, K1 = 9223372036854775808 + L.newest := ⟨_, rfl⟩
  obtain ⟨K2, hK2⟩ : ∃ K2, K2 = K1 + 1 := ⟨_, rfl⟩
  have hw2 : IntKind.u64.wrap (9223372036854775808 + L.newest) = K1 := by have := HPO.out; rw [hK1]; simp [IntKind.wrap, IntKind.bits, IntKind.signed, LG.newest]; omega
  have hw3 : IntKind.u64.wrap (K1 + 1) = K2 := by have := HPO.out; rw [hK2, hK1]; simp [IntKind.wrap, IntKind.bits, IntKind.signed, LG.newest]; omega
  have HK2 := Aside0.mk (show K2 = 9223372036854775808 + L.newest + 1 by rw [hK2, hK1])
  clear h hn hB hk hC hc hb hK1 hK2
  have e0 : decide (9223372036854775808 ≤ k) = false := decide_eq_false hi
  have e1 : (k == 0) = false := beq_eq_false_iff_ne.2 hx
  have e2 : decide (L.next ≤ k) = false := decide_eq_false (by omega)
  have e3 : decide ((bs.length : Int) < 8) = false := decide_eq_false (by omega)
  have e4 : decide (4104 < (bs.length : Int)) = false := decide_eq_false (by omega)
  obtain ⟨ve, hve⟩ : ∃ ve, verOf bs = ve := ⟨_, rfl⟩
  have f1 : decide (0 < ve) = true := decide_eq_true (by rw [← hve]; exact h1)
  have f2 : decide (ve ≤ nw) = true := decide_eq_true (by rw [← hve]; exact h2)
  have f3 : decide (L.cur < k) = false := decide_eq_false h3
  have f4 : (ve == nw) = true := beq_iff_eq.2 (by rw [← hve]; exact h4)
  clear h1 h2 h3 h4
  have hnum' : ledger_number.f 9 (bs.take 8) = some ve := by rw [← hve]; exact hnum.out
  have HNUM := Aside0.mk hnum'
  obtain ⟨text, htext⟩ : ∃ text, strOfNums (bs.drop 8) = text := ⟨_, rfl⟩
  rw [hve, htext] at HAC
  have HTX := Aside0.mk htext
  obtain ⟨i0, hi5, _, hsz5, _⟩ := info_parts info5
  obtain ⟨tk1, tk2, tk3⟩ := print_take_of (P := Try.prog) (Value.int .u8) (0 : Int) 50 5 .i64 Try.underlying50 hi5 hsz5 A c bs 8 (by omega) (by omega) HCC.out
  have tk1' : ∀ W : World, (Instr.slice 50 (.slice A bs.length c) none (some (.int .i64 8)) none).run Try.prog W = .ok (.slice A (bs.take 8).length c) W := tk1
  have TK2 := Aside0.mk (show ∀ W, (Kd.int .u8).C W A bs.length bs → (Kd.int .u8).C W A (bs.take 8).length (bs.take 8) from fun W hC => Kd.C_of_reads (h1 := fun _ => rfl) (tk2 W (Kd.reads_of_C hC)))
  have TK3 := Aside0.mk (show (bs.take 8).length ≤ c from tk3)
  obtain ⟨A', dr1, dr2, dr3⟩ := print_drop_of (P := Try.prog) (Value.int .u8) (0 : Int) 50 5 .i64 Try.underlying50 hi5 hsz5 A c bs 8 (by omega) (by omega) HCC.out
  obtain ⟨c', hc'⟩ : ∃ c', c - (8 : Int).toNat = c' := ⟨_, rfl⟩
  rw [hc'] at dr1 dr3
  have dr1' : ∀ W : World, (Instr.slice 50 (.slice A bs.length c) (some (.int .i64 8)) none none).run Try.prog W = .ok (.slice A' (bs.drop 8).length c') W := dr1
  have DR2 := Aside0.mk (show ∀ W, (Kd.int .u8).C W A bs.length bs → (Kd.int .u8).C W A' (bs.drop 8).length (bs.drop 8) from fun W hC => Kd.C_of_reads (h1 := fun _ => rfl) (dr2 W (Kd.reads_of_C hC)))
  have hkk := Aside0.mk (keyOf_int_mk Try.underlying24 (wf64 HK.out))
  obtain ⟨tk, htk⟩ : ∃ tk, bs.take 8 = tk := ⟨_, rfl⟩
  obtain ⟨dr, hdr⟩ : ∃ dr, bs.drop 8 = dr := ⟨_, rfl⟩
  rw [htk] at tk1' TK2 TK3 HNUM
  rw [hdr] at dr1' DR2 HTX
  clear hi hx hy hz hu hnw h100 hnum hnum' hve htext tk1 tk2 tk3 dr1 dr2 dr3 htk hdr hi5 hsz5 hc'
  go_enter Try.func30, Try.ntmps30
  go_wp2_with (first
    | ((with_reducible refine gate_dst (N := 4) rfl ?_); refine box_event ?hg (N := 4) ?hd (cs := #[.int .u64 k, .slice A bs.length c]) (t := 52) ?hr ?_; (case hd => rfl); (case hg => rfl); (case hr => first | (go_simp; done) | (go_simp; rfl)); intro gb hg w3 hbox hb; have HB3 := Aside0.mk hb; have BK3 := Aside0.mk hbox; have HGB := Aside0.mk (show w.heap.size ≤ gb by rw [hg]; exact Nat.le_refl _); have c0 : w3.cell? ⟨gb, 0, none⟩ = some (.int .u64 k) := (blk_cell hbox 0).trans rfl; have c1 : w3.cell? ⟨gb, 1, none⟩ = some (.slice A bs.length c) := (blk_cell hbox 1).trans rfl; have HL3 := Aside0.mk (HH.out.below hb); obtain ⟨⟨h0, h1, h2, h3⟩, hf⟩ := HL3.out.cells; have HNW := Aside0.mk (fun m => newest_calls (HL3.out.below (pw_below_drewN (Below.refl _ _) m))); have HC3 := Aside0.mk (Kd.C_below HC.out hb); clear hg hbox hb))
  go_quiet (fail)
  have HBQ := Aside0.mk (pw_below_drewN (Below.refl w3.heap.size w3) nq)
  clear h0 h1 h2 h3 hf c0 c1
  generalize w3.drewN nq = w4 at HBQ ⊢
  have HL4 := Aside0.mk (HL3.out.below HBQ.out)
  have BK4 := Aside0.mk (blk_below BK3.out HBQ.out)
  have HB4 := Aside0.mk (HB3.out.trans (HBQ.out.mono HB3.out.size))
  have HC4 := Aside0.mk (Kd.C_below HC3.out HBQ.out)
  have c0 : w4.cell? ⟨gb, 0, none⟩ = some (.int .u64 k) := (blk_cell BK4.out 0).trans rfl
  have c1 : w4.cell? ⟨gb, 1, none⟩ = some (.slice A bs.length c) := (blk_cell BK4.out 1).trans rfl
  go_wp2_with (go_at_call 29; (with_reducible refine (ledger_number.calls 9 A c tk ve _ ?s1 ?s2 HNUM.out).mono ?_); (case s1 => exact TK2.out _ HC4.out); (case s2 => exact TK3.out); rintro e w5 ⟨rfl, hd⟩; have HBD := Aside0.mk (show Below w4.heap.size w4 w5 from by obtain ⟨n_, rfl⟩ := hd.out; exact pw_below_drewN (Below.refl _ _) n_); have HL5 := Aside0.mk (HL4.out.below HBD.out); have BK5 := Aside0.mk (blk_below BK4.out HBD.out); have HB5 := Aside0.mk (HB4.out.trans (HBD.out.mono HB4.out.size)); have HC5 := Aside0.mk (Kd.C_below HC4.out HBD.out); clear c0 c1 hd; have c0 : w5.cell? ⟨gb, 0, none⟩ = some (.int .u64 k) := (blk_cell BK5.out 0).trans rfl; have c1 : w5.cell? ⟨gb, 1, none⟩ = some (.slice A bs.length c) := (blk_cell BK5.out 1).trans rfl; (obtain ⟨⟨h0, h1, h2, h3⟩, hf⟩ := HL5.out.cells))
  have hcv := (Kd.C_string (P := Try.prog) (A := A') (c := c') Try.underlying50 Try.underlying5 Try.underlying9 (Kd.C_drew (DR2.out _ HC5.out)))
  rw [HTX.out] at hcv
  refine region_tail 14 (by kernel_rfl) (by kernel_rfl) ?_
  simp only [List.take_succ_cons, List.take_zero, List.drop_succ_cons, List.drop_zero]
  repeat still_step
  refine wpStill_nil ?_
  have HM := Aside0.mk HL5.out.map.drew
  go_wp2_with (at_mapUpdate; refine wpList_mapUpdate_own _ rfl _ _ _ 67 rfl 24 42 law24 Try.underlying67 _ b n _ rfl HM.out HN.out _ _ _ rfl rfl hkk.out (pd ⟨k, ve, text⟩) [] (postR_mk ⟨k, ve, text⟩) ?_; intro w6 hown6 hg6; have HO6 := Aside0.mk hown6; have HG6 := Aside0.mk hg6; have BG6 := Aside0.mk (blk_grown (blk_drew HL5.out.blk) hg6 HL5.out.ne.1); have BB6 := Aside0.mk (blk_grown (blk_drew BK5.out) hg6 (by have := HGB.out; have := (HH.out.lt (.inr (.inl rfl))).2; omega)); clear hown6 hg6 h0 h1 h2 h3 hf c0 c1 hcv; have c0 : w6.cell? ⟨gb, 0, none⟩ = some (.int .u64 k) := (blk_cell BB6.out 0).trans rfl; have h3 : w6.cell? ⟨g, 3, none⟩ = some (.int .u64 L.cur) := (blk_cell BG6.out 3).trans rfl; go_frame)
  go_quiet (fail)
  go_wp2
  go_ret
  have m56 : Mv (fun j => j = b) w5 w6 := (Mv.of_below (below_drew (Below.refl _ _))).trans (.of_grown (S := fun j => j = b) HG6.out (fun j e => by cases e; rfl)) (fun j hj => .inl hj)
  have m1 : Mv (Owns g b v) w (w6.drewN nq) := ((Mv.of_below HB5.out).trans m56 (fun j hj => .inl (.inr (.inl hj)))).trans (S' := fun _ => False) (.of_below (pw_below_drewN (Below.refl _ _) _)) (fun j hj => hj.elim)
  have e1' := put_eq HL5.out.ok.rise (⟨k, ve, text⟩ : LP) (x := k) rfl (HO6.out.canon law24)
  refine ⟨by rw [HOF.out]; rfl, m1, fun _ => ?_⟩
  rw [HAC.out] at HOK ⊢
  exact ⟨⟨v, ⟨(BG6.out : _), e1' ▸ HO6.out, own_mv HL5.out.row (m56.trans (S' := fun _ => False) (.of_below (pw_below_drewN (Below.refl _ _) _)) (fun j hj => hj.elim)) (fun j hj e => HL5.out.ne.2.2 (by rw [hj, e])), HH.out.gB, HH.out.bB, HOK.out⟩, fun j hj => .inl hj⟩, m1⟩
set_option maxHeartbeats 4000000 in
set_option maxRecDepth 100000 in
theorem load_lo9 {w : World} {B g b n : Nat} {v : Value} {L : LG} (h : Led w B g b n v L) (hB : B ≤ w.heap.size) (hn : n < maxLen) {k : Int} {A : Option Addr} {c : Nat} {bs : List Int} {nw : Int} (hk : 0 ≤ k ∧ k ≤ 18446744073709551615) (hC : (Kd.int .u8).C w A bs.length bs) (hc : bs.length ≤ c) (hb : Bytes bs) (hnw : L.newest ≤ nw) (h100 : nw ≤ 100) (hi : ¬ 9223372036854775808 ≤ k) (hx : k ≠ 0) (hy : k < L.next) (hz : 8 ≤ bs.length) (hu : bs.length ≤ 4104) (h1 : 0 < verOf bs) (h2 : verOf bs ≤ nw) (h3 : ¬ L.cur < k) (h4 : verOf bs ≠ nw) :
    Calls Try.prog 30 #[.pointer (some ⟨g, 0, none⟩), .agg #[.int .u64 k, .slice A bs.length c], .int .u64 nw] w fun e w' => e = .returned (.bool (ldOk L k bs nw)) ∧ Ldd w w' B g b n v L k bs nw := by
  have HOF : Aside0 (ldOk L k bs nw = false) := ⟨by
    unfold ldOk
    rw [if_neg hi, show decide (k ≠ 0) = true from decide_eq_true hx, show decide (k < L.next) = true from decide_eq_true hy, show decide (8 ≤ bs.length) = true from decide_eq_true hz, show decide (bs.length ≤ 4104) = true from decide_eq_true hu]
    rw [show decide (0 < verOf bs) = true from decide_eq_true h1, show decide (verOf bs ≤ nw) = true from decide_eq_true h2, show decide (L.cur < k) = false from decide_eq_false h3, show decide (verOf bs = nw) = false from decide_eq_false h4]; rfl⟩
  have HAC := Aside0.mk (show ldL L k bs = ⟨setP L.posts ⟨k, verOf bs, strOfNums (bs.drop 8)⟩, L.pols, L.next, L.cur⟩ from if_neg hi)
  have hnum := Aside0.mk (num_is (bs.take 8) (bytes_take hb 8) (List.length_take_le 8 bs) 9 (by have := List.length_take_le 8 bs; omega))
  have HH := Aside0.mk h
  have HN := Aside0.mk hn
  have HBB := Aside0.mk hB
  have HK := Aside0.mk hk
  have HC := Aside0.mk hC
  have HCC := Aside0.mk hc
  have HBY := Aside0.mk hb
  have HPO := Aside0.mk h.ok.pols
  obtain ⟨K1, hK1⟩ : ∃ K1, K1 = 9223372036854775808 + L.newest := ⟨_, rfl⟩
  obtain ⟨K2, hK2⟩ : ∃ K2, K2 = K1 + 1 := ⟨_, rfl⟩
  have hw2 : IntKind.u64.wrap (9223372036854775808 + L.newest) = K1 := by have := HPO.out; rw [hK1]; simp [IntKind.wrap, IntKind.bits, IntKind.signed, LG.newest]; omega
  have hw3 : IntKind.u64.wrap (K1 + 1) = K2 := by have := HPO.out; rw [hK2, hK1]; simp [IntKind.wrap, IntKind.bits, IntKind.signed, LG.newest]; omega
  have HK2 := Aside0.mk (show K2 = 9223372036854775808 + L.newest + 1 by rw [hK2, hK1])
  clear h hn hB hk hC hc hb hK1 hK2
  have e0 : decide (9223372036854775808 ≤ k) = false := decide_eq_false hi
  have e1 : (k == 0) = false := beq_eq_false_iff_ne.2 hx
  have e2 : decide (L.next ≤ k) = false := decide_eq_false (by omega)
  have e3 : decide ((bs.length : Int) < 8) = false := decide_eq_false (by omega)
  have e4 : decide (4104 < (bs.length : Int)) = false := decide_eq_false (by omega)
  obtain ⟨ve, hve⟩ : ∃ ve, verOf bs = ve := ⟨_, rfl⟩
  have f1 : decide (0 < ve) = true := decide_eq_true (by rw [← hve]; exact h1)
  have f2 : decide (ve ≤ nw) = true := decide_eq_true (by rw [← hve]; exact h2)
  have f3 : decide (L.cur < k) = false := decide_eq_false h3
  have f4 : (ve == nw) = false := beq_eq_false_iff_ne.2 (by rw [← hve]; exact h4)
  clear h1 h2 h3 h4
  have hnum' : ledger_number.f 9 (bs.take 8) = some ve := by rw [← hve]; exact hnum.out
  have HNUM := Aside0.mk hnum'
  obtain ⟨text, htext⟩ : ∃ text, strOfNums (bs.drop 8) = text := ⟨_, rfl⟩
  rw [hve, htext] at HAC
  have HTX := Aside0.mk htext
  obtain ⟨i0, hi5, _, hsz5, _⟩ := info_parts info5
  obtain ⟨tk1, tk2, tk3⟩ := print_take_of (P := Try.prog) (Value.int .u8) (0 : Int) 50 5 .i64 Try.underlying50 hi5 hsz5 A c bs 8 (by omega) (by omega) HCC.out
  have tk1' : ∀ W : World, (Instr.slice 50 (.slice A bs.length c) none (some (.int .i64 8)) none).run Try.prog W = .ok (.slice A (bs.take 8).length c) W := tk1
  have TK2 := Aside0.mk (show ∀ W, (Kd.int .u8).C W A bs.length bs → (Kd.int .u8).C W A (bs.take 8).length (bs.take 8) from fun W hC => Kd.C_of_reads (h1 := fun _ => rfl) (tk2 W (Kd.reads_of_C hC)))
  have TK3 := Aside0.mk (show (bs.take 8).length ≤ c from tk3)
  obtain ⟨A', dr1, dr2, dr3⟩ := print_drop_of (P := Try.prog) (Value.int .u8) (0 : Int) 50 5 .i64 Try.underlying50 hi5 hsz5 A c bs 8 (by omega) (by omega) HCC.out
  obtain ⟨c', hc'⟩ : ∃ c', c - (8 : Int).toNat = c' := ⟨_, rfl⟩
  rw [hc'] at dr1 dr3
  have dr1' : ∀ W : World, (Instr.slice 50 (.slice A bs.length c) (some (.int .i64 8)) none none).run Try.prog W = .ok (.slice A' (bs.drop 8).length c') W := dr1
  have DR2 := Aside0.mk (show ∀ W, (Kd.int .u8).C W A bs.length bs → (Kd.int .u8).C W A' (bs.drop 8).length (bs.drop 8) from fun W hC => Kd.C_of_reads (h1 := fun _ => rfl) (dr2 W (Kd.reads_of_C hC)))
  have hkk := Aside0.mk (keyOf_int_mk Try.underlying24 (wf64 HK.out))
  obtain ⟨tk, htk⟩ : ∃ tk, bs.take 8 = tk := ⟨_, rfl⟩
  obtain ⟨dr, hdr⟩ : ∃ dr, bs.drop 8 = dr := ⟨_, rfl⟩
  rw [htk] at tk1' TK2 TK3 HNUM
  rw [hdr] at dr1' DR2 HTX
  clear hi hx hy hz hu hnw h100 hnum hnum' hve htext tk1 tk2 tk3 dr1 dr2 dr3 htk hdr hi5 hsz5 hc'
  go_enter Try.func30, Try.ntmps30
  go_wp2_with (first
    | ((with_reducible refine gate_dst (N := 4) rfl ?_); refine box_event ?hg (N := 4) ?hd (cs := #[.int .u64 k, .slice A bs.length c]) (t := 52) ?hr ?_; (case hd => rfl); (case hg => rfl); (case hr => first | (go_simp; done) | (go_simp; rfl)); intro gb hg w3 hbox hb; have HB3 := Aside0.mk hb; have BK3 := Aside0.mk hbox; have HGB := Aside0.mk (show w.heap.size ≤ gb by rw [hg]; exact Nat.le_refl _); have c0 : w3.cell? ⟨gb, 0, none⟩ = some (.int .u64 k) := (blk_cell hbox 0).trans rfl; have c1 : w3.cell? ⟨gb, 1, none⟩ = some (.slice A bs.length c) := (blk_cell hbox 1).trans rfl; have HL3 := Aside0.mk (HH.out.below hb); obtain ⟨⟨h0, h1, h2, h3⟩, hf⟩ := HL3.out.cells; have HNW := Aside0.mk (fun m => newest_calls (HL3.out.below (pw_below_drewN (Below.refl _ _) m))); have HC3 := Aside0.mk (Kd.C_below HC.out hb); clear hg hbox hb))
  go_quiet (fail)
  have HBQ := Aside0.mk (pw_below_drewN (Below.refl w3.heap.size w3) nq)
  clear h0 h1 h2 h3 hf c0 c1
  generalize w3.drewN nq = w4 at HBQ ⊢
  have HL4 := Aside0.mk (HL3.out.below HBQ.out)
  have BK4 := Aside0.mk (blk_below BK3.out HBQ.out)
  have HB4 := Aside0.mk (HB3.out.trans (HBQ.out.mono HB3.out.size))
  have HC4 := Aside0.mk (Kd.C_below HC3.out HBQ.out)
  have c0 : w4.cell? ⟨gb, 0, none⟩ = some (.int .u64 k) := (blk_cell BK4.out 0).trans rfl
  have c1 : w4.cell? ⟨gb, 1, none⟩ = some (.slice A bs.length c) := (blk_cell BK4.out 1).trans rfl
  go_wp2_with (go_at_call 29; (with_reducible refine (ledger_number.calls 9 A c tk ve _ ?s1 ?s2 HNUM.out).mono ?_); (case s1 => exact TK2.out _ HC4.out); (case s2 => exact TK3.out); rintro e w5 ⟨rfl, hd⟩; have HBD := Aside0.mk (show Below w4.heap.size w4 w5 from by obtain ⟨n_, rfl⟩ := hd.out; exact pw_below_drewN (Below.refl _ _) n_); have HL5 := Aside0.mk (HL4.out.below HBD.out); have BK5 := Aside0.mk (blk_below BK4.out HBD.out); have HB5 := Aside0.mk (HB4.out.trans (HBD.out.mono HB4.out.size)); have HC5 := Aside0.mk (Kd.C_below HC4.out HBD.out); clear c0 c1 hd; have c0 : w5.cell? ⟨gb, 0, none⟩ = some (.int .u64 k) := (blk_cell BK5.out 0).trans rfl; have c1 : w5.cell? ⟨gb, 1, none⟩ = some (.slice A bs.length c) := (blk_cell BK5.out 1).trans rfl; (obtain ⟨⟨h0, h1, h2, h3⟩, hf⟩ := HL5.out.cells))
  have hcv := (Kd.C_string (P := Try.prog) (A := A') (c := c') Try.underlying50 Try.underlying5 Try.underlying9 (Kd.C_drew (DR2.out _ HC5.out)))
  rw [HTX.out] at hcv
  refine region_tail 14 (by kernel_rfl) (by kernel_rfl) ?_
  simp only [List.take_succ_cons, List.take_zero, List.drop_succ_cons, List.drop_zero]
  repeat still_step
  refine wpStill_nil ?_
  have HM := Aside0.mk HL5.out.map.drew
  go_wp2_with (at_mapUpdate; refine wpList_mapUpdate_own _ rfl _ _ _ 67 rfl 24 42 law24 Try.underlying67 _ b n _ rfl HM.out HN.out _ _ _ rfl rfl hkk.out (pd ⟨k, ve, text⟩) [] (postR_mk ⟨k, ve, text⟩) ?_; intro w6 hown6 hg6; have HO6 := Aside0.mk hown6; have HG6 := Aside0.mk hg6; have BG6 := Aside0.mk (blk_grown (blk_drew HL5.out.blk) hg6 HL5.out.ne.1); have BB6 := Aside0.mk (blk_grown (blk_drew BK5.out) hg6 (by have := HGB.out; have := (HH.out.lt (.inr (.inl rfl))).2; omega)); clear hown6 hg6 h0 h1 h2 h3 hf c0 c1 hcv; have c0 : w6.cell? ⟨gb, 0, none⟩ = some (.int .u64 k) := (blk_cell BB6.out 0).trans rfl; have h3 : w6.cell? ⟨g, 3, none⟩ = some (.int .u64 L.cur) := (blk_cell BG6.out 3).trans rfl; go_frame)
  go_quiet (fail)
  go_wp2
  go_ret
  have m56 : Mv (fun j => j = b) w5 w6 := (Mv.of_below (below_drew (Below.refl _ _))).trans (.of_grown (S := fun j => j = b) HG6.out (fun j e => by cases e; rfl)) (fun j hj => .inl hj)
  have m1 : Mv (Owns g b v) w (w6.drewN nq) := ((Mv.of_below HB5.out).trans m56 (fun j hj => .inl (.inr (.inl hj)))).trans (S' := fun _ => False) (.of_below (pw_below_drewN (Below.refl _ _) _)) (fun j hj => hj.elim)
  refine ⟨by rw [HOF.out]; rfl, m1, fun q => by rw [HOF.out] at q; cases q⟩
theorem load_calls {w : World} {B g b n : Nat} {v : Value} {L : LG} (h : Led w B g b n v L) (hB : B ≤ w.heap.size) (hn : n < maxLen) {k : Int} {A : Option Addr} {c : Nat} {bs : List Int} {nw : Int} (hk : 0 ≤ k ∧ k ≤ 18446744073709551615) (hC : (Kd.int .u8).C w A bs.length bs) (hc : bs.length ≤ c) (hb : Bytes bs) (hnw : L.newest ≤ nw) (h100 : nw ≤ 100) :
    Calls Try.prog 30 #[.pointer (some ⟨g, 0, none⟩), .agg #[.int .u64 k, .slice A bs.length c], .int .u64 nw] w fun e w' => e = .returned (.bool (ldOk L k bs nw)) ∧ Ldd w w' B g b n v L k bs nw := by
  by_cases hi : 9223372036854775808 ≤ k
  · by_cases hx : k = 9223372036854775808 + L.newest + 1
    · by_cases hy : L.newest = nw
      · exact load_hi2 h hB hn hk hC hc hb hnw h100 hi hx hy
      · by_cases hz : bs.length ≤ 2000
        · exact load_hi4 h hB hn hk hC hc hb hnw h100 hi hx hy hz
        · exact load_hi3 h hB hn hk hC hc hb hnw h100 hi hx hy hz
    · exact load_hi1 h hB hn hk hC hc hb hnw h100 hi hx
  · by_cases hx : k = 0
    · exact load_lo1 h hB hn hk hC hc hb hnw h100 hi hx
    · by_cases hy : k < L.next
      · by_cases hz : 8 ≤ bs.length
        · by_cases hu : bs.length ≤ 4104
          · by_cases h1 : 0 < verOf bs
            · by_cases h2 : verOf bs ≤ nw
              · by_cases h3 : L.cur < k
                · exact load_lo7 h hB hn hk hC hc hb hnw h100 hi hx hy hz hu h1 h2 h3
                · by_cases h4 : verOf bs = nw
                  · exact load_lo8 h hB hn hk hC hc hb hnw h100 hi hx hy hz hu h1 h2 h3 h4
                  · exact load_lo9 h hB hn hk hC hc hb hnw h100 hi hx hy hz hu h1 h2 h3 h4
              · exact load_lo6 h hB hn hk hC hc hb hnw h100 hi hx hy hz hu h1 h2
            · exact load_lo5 h hB hn hk hC hc hb hnw h100 hi hx hy hz hu h1
          · exact load_lo4 h hB hn hk hC hc hb hnw h100 hi hx hy hz hu
        · exact load_lo3 h hB hn hk hC hc hb hnw h100 hi hx hy hz
      · exact load_lo2 h hB hn hk hC hc hb hnw h100 hi hx hy
end Go.Proofs.Ytjfkenjmjoncbaa.Lg

end
