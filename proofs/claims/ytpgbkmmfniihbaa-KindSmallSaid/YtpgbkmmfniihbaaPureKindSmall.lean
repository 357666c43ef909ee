/- The statement KindSmall: a name that Lower changes is in no set; Lower done twice is done once, and changes no length; a space is no letter, a letter no figure
   (beyond 300 bytes: the live question alone). No condition: every set's number, every name, every byte. -/
import Derived.Test.YtpgbkmmfniihbaaPAllx0
import Derived.Test.YtpgbkmmfniihbaaPAllx2
import Derived.Test.YtpgbkmmfniihbaaPAllx7
import Derived.Test.YtpgbkmmfniihbaaTexts
import Derived.OpenShut
namespace Go.Proofs.Ytpgbkmmfniihbaa.Pure
open Go.RowKit Go.Proofs.Ytpgbkmmfniihbaa.PAll Go.Proofs.YtpgbkmmfniihbaaW.PrintWords Go.Proofs.YtpgbkmmfniihbaaW.PrintLast
theorem small_all : ∀ n, n < 256 → marginalialaw02_KindSmall.j0 70 (Int.ofNat n) false = some true := by decide +kernel
theorem small_ev (c : Int) (hw : (Lit.int .u8 c).wf = true) : Ev (fun k => marginalialaw02_KindSmall.j0 k c false) true := by
  have hb := Go.bounds_u8 hw
  refine Ev.of (fun k => marginalialaw02_KindSmall.mono_l k _ _) (k := 70) ?_
  have := small_all c.toNat (by omega)
  rwa [show Int.ofNat c.toNat = c by simp [Int.toNat_of_nonneg hb.1]] at this
theorem lowB_twice (c : UInt8) : lowB (lowB c) = lowB c := by
  have H : ∀ n, n < 256 → lowB (lowB (UInt8.ofNat n)) = lowB (UInt8.ofNat n) := by decide +kernel
  have := H c.toNat c.toNat_lt
  simpa using this
theorem lowS_data (s : ByteArray) : (lowS s).data.toList = s.data.toList.map lowB := by simp [lowS]
theorem lowS_twice (s : ByteArray) : lowS (lowS s) = lowS s := by
  simp only [lowS, ByteArray.mk.injEq, Array.map_map]
  exact Array.map_congr_left fun c _ => lowB_twice c
theorem lowS_size (s : ByteArray) : (lowS s).size = s.size := Array.size_map (f := lowB)
theorem set_small (k : Int) : ∀ y ∈ setK k, y.map lowB = y := by
  by_cases h1 : k = 1
  · subst h1; decide +kernel
  by_cases h2 : k = 2
  · subst h2; decide +kernel
  by_cases h3 : k = 3
  · subst h3; decide +kernel
  by_cases h4 : k = 4
  · subst h4; decide +kernel
  by_cases h5 : k = 5
  · subst h5; decide +kernel
  by_cases h6 : k = 6
  · subst h6; decide +kernel
  by_cases h7 : k = 7
  · subst h7; decide +kernel
  by_cases h8 : k = 8
  · subst h8; decide +kernel
  by_cases h9 : k = 9
  · subst h9; decide +kernel
  by_cases h10 : k = 10
  · subst h10; decide +kernel
  by_cases h11 : k = 11
  · subst h11; decide +kernel
  by_cases h12 : k = 12
  · subst h12; decide +kernel
  have hk : setK k = [] := by
    simp only [setK, if_neg h1, if_neg h2, if_neg h3, if_neg h4, if_neg h5, if_neg h6, if_neg h7, if_neg h8, if_neg h9, if_neg h10, if_neg h11, if_neg h12]
  rw [hk]
  simp
theorem lower_is (s : ByteArray) (hs : s.size ≤ 140737488351232) : kind_Lower.f s = some (lowS s) := by
  unfold kind_Lower.f
  rw [if_pos hs]
theorem KindSmall : marginalialaw02_KindSmall.Pure := by
  intro a0 a1 a2 _ h1 h2
  have H : Ev (fun k => marginalialaw02_KindSmall.f k a0 a1 a2) true := by
    unfold marginalialaw02_KindSmall.f
    by_cases hs : (a1.size : Int) > 300
    · exact Ev.congr (fun _ => if_pos hs) (Ev.pass alive_ev)
    · refine Ev.congr (fun _ => if_neg hs) ?_
      refine Ev.bind (⟨0, fun _ _ => lower_is a1 h1⟩) ?_
      have tail : Ev (fun n => if ((lowS a1).size : Int) = (a1.size : Int) then ((kind_Lower.f (lowS a1)).bind fun t => (marginalialaw02_KindSmall.j0 n a2 (t.toList != (lowS a1).toList))) else (marginalialaw02_KindSmall.j0 n a2 true)) true := by
        refine Ev.congr (fun _ => if_pos (by rw [lowS_size])) ?_
        refine Ev.bind (⟨0, fun _ _ => lower_is (lowS a1) (by rw [lowS_size]; exact h1)⟩) ?_
        rw [lowS_twice]
        simpa using small_ev a2 h2
      by_cases e : (lowS a1).toList = a1.toList
      · exact Ev.congr (fun _ => if_pos e) tail
      · refine Ev.congr (fun _ => if_neg e) ?_
        refine Ev.bind (is_ev a0 a1) ?_
        have hn : inK a0 a1 = false := by
          rw [Bool.eq_false_iff]
          intro hc
          have := set_small a0 _ (List.contains_iff_mem.1 hc)
          exact e (by rw [bytes_data, bytes_data, lowS_data, this])
        rw [hn]
        exact Ev.congr (fun _ => if_neg (by simp)) tail
  exact H.rounds
end Go.Proofs.Ytpgbkmmfniihbaa.Pure
